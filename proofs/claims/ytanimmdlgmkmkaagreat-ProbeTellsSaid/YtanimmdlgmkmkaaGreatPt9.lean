/- Probe: ProbeTells. Part 9 of 15: AvN24, AvN16, AvN31, AvN33, AvL1, AvB1, AvB2, AvB3, AvB4, AvB5, AvB6, AvB7, AvB8, AvB9, AvBA, AvBB, AvBE, AvBF, AvBI, AvZ1, AvZ2, AvZ4, AvZ5, AvZ6, AvZ3, AvP3, AvL2, AvL3, AvL4, AvL7, AvL8, AvL9, AvL5, AvL10, AvL11, AvL12, AvL13, AvN35. -/
import Derived.Test.YtanimmdlgmkmkaaGreatPt6
import Derived.Test.YtanimmdlgmkmkaaGreatPt7
import Derived.Test.YtanimmdlgmkmkaaGreatPt8
namespace Go.Proofs.YtanimmdlgmkmkaaGreat.Av
open Go
set_option linter.unusedSimpArgs false
set_option linter.unusedVariables false
set_option maxRecDepth 100000
set_option maxHeartbeats 2000000
set_option pp.maxSteps 600
theorem zjB (t : Tp) (f : Fl) (hl : t.ports.length < 2 ^ 60) (hl2 : t.links.length < 2 ^ 42) : PCalls Tryz.prog 122 [zaT t f] (.raw (.bool (zce t))) := by
  refine zK Tryz.func122 rfl (N := 96) rfl rfl (by simp) (by simp [noIds]) fun σ => ?_
  repeat (refine zg ?_)
  refine zh ?_
  have ho1 : cellOK (zq t.ports f.p) = true := rfl
  have ho2 : cellOK (zy t.links f.l) = true := rfl
  simp only [cellOK] at ho1 ho2
  simp [zM, ho1, ho2]
  refine zY ⟨1, σ.nx 1, 2⟩ ?_
  generalize hτ : St.del _ _ = τ
  generalize hA : (fun t => zD _ _ _) = A
  have a1 : A 1 = .pp [zq t.ports f.p, zy t.links f.l] 0 := by rw [← hA, ← hτ]; simp [zD, St.new, St.del, zM]
  have hE : Ext σ τ := by
    rw [← hτ]
    refine ⟨fun i o h => ?_, fun s => ?_⟩
    · rw [zag (fun e => by rw [e, zf] at h; cases h)]
      exact zaR _ _ h
    · exact St.new_le σ 1 2 (.buf [zaT t f]) s
  clear hτ hA
  by_cases q1 : t.ports.length < 1
  · have q1' : (t.ports.length : Int) < 1 := by omega
    (try ((first | with_reducible refine zk ?_ | with_reducible refine zm ?_ | with_reducible refine zo ?_); simp [zq, zy, a1, hE, q1, q1'])); repeat' (first | ((first | refine zd ?_ | refine zh ?_ | refine dN (by decide +kernel) ?_ | (refine za ?_ ?_ <;> (intro hg; simp only [hg])) | fail) <;> simp [zq, zy, a1, hE, q1, q1']) | refine zg ?_ | refine zc ?_ | (refine zs ?_; simp only [zt]; try simp) | ((first | refine zl (by simp) ?_ | refine zw (by simp) (by simp) (by simp (maxDischargeDepth := 30) [zq, zy, a1, hE, q1, q1']) ?_ | fail); simp) | (refine zb (fun hc => ?_) (fun hc => ?_) <;> try simp at hc) | fail)
    all_goals simp [zce, q1]
  have q1' : ¬ (t.ports.length : Int) < 1 := by omega
  by_cases q2 : 8 < t.ports.length
  · have q2' : (8 : Int) < (t.ports.length : Int) := by omega
    (try ((first | with_reducible refine zk ?_ | with_reducible refine zm ?_ | with_reducible refine zo ?_); simp [zq, zy, a1, hE, q1, q1', q2, q2'])); repeat' (first | ((first | refine zd ?_ | refine zh ?_ | refine dN (by decide +kernel) ?_ | (refine za ?_ ?_ <;> (intro hg; simp only [hg])) | fail) <;> simp [zq, zy, a1, hE, q1, q1', q2, q2']) | refine zg ?_ | refine zc ?_ | (refine zs ?_; simp only [zt]; try simp) | ((first | refine zl (by simp) ?_ | refine zw (by simp) (by simp) (by simp (maxDischargeDepth := 30) [zq, zy, a1, hE, q1, q1', q2, q2']) ?_ | fail); simp) | (refine zb (fun hc => ?_) (fun hc => ?_) <;> try simp at hc) | fail)
    all_goals simp [zce, q2]
  have q2' : ¬ (8 : Int) < (t.ports.length : Int) := by omega
  by_cases q3 : 16 < t.links.length
  · have q3' : (16 : Int) < (t.links.length : Int) := by omega
    (try ((first | with_reducible refine zk ?_ | with_reducible refine zm ?_ | with_reducible refine zo ?_); simp [zq, zy, a1, hE, q1, q1', q2, q2', q3, q3'])); repeat' (first | ((first | refine zd ?_ | refine zh ?_ | refine dN (by decide +kernel) ?_ | (refine za ?_ ?_ <;> (intro hg; simp only [hg])) | fail) <;> simp [zq, zy, a1, hE, q1, q1', q2, q2', q3, q3']) | refine zg ?_ | refine zc ?_ | (refine zs ?_; simp only [zt]; try simp) | ((first | refine zl (by simp) ?_ | refine zw (by simp) (by simp) (by simp (maxDischargeDepth := 30) [zq, zy, a1, hE, q1, q1', q2, q2', q3, q3']) ?_ | fail); simp) | (refine zb (fun hc => ?_) (fun hc => ?_) <;> try simp at hc) | fail)
    all_goals simp [zce, q3]
  have q3' : ¬ (16 : Int) < (t.links.length : Int) := by omega
  (try ((first | with_reducible refine zk ?_ | with_reducible refine zm ?_ | with_reducible refine zo ?_); simp [zq, zy, a1, hE, q1, q1', q2, q2', q3, q3'])); repeat' (first | ((first | refine zd ?_ | refine zh ?_ | refine dN (by decide +kernel) ?_ | (refine za ?_ ?_ <;> (intro hg; simp only [hg])) | fail) <;> simp [zq, zy, a1, hE, q1, q1', q2, q2', q3, q3']) | refine zg ?_ | refine zc ?_ | (refine zs ?_; simp only [zt]; try simp) | ((first | refine zl (by simp) ?_ | refine zw (by simp) (by simp) (by simp (maxDischargeDepth := 30) [zq, zy, a1, hE, q1, q1', q2, q2', q3, q3']) ?_ | fail); simp) | (refine zb (fun hc => ?_) (fun hc => ?_) <;> try simp at hc) | fail)
  refine zab (fun n B ρ => Ext σ ρ ∧ B 1 = .pp [zq t.ports f.p, zy t.links f.l] 0 ∧ ∃ i : Nat, B 3 = .raw (.int .i64 i) ∧ i ≤ t.ports.length ∧ n = t.ports.length - i ∧ (t.ports.take i).all (fun n => decide (1 ≤ n) && decide (n ≤ 4)) = true) t.ports.length ?_ ?_
  · exact ⟨hE, by simp [a1], 0, by simp, by omega, by omega, by simp⟩
  clear hE a1
  rintro n B ρ ⟨hE, a1, i, a3, hi, rfl, hall⟩ I1 hI1
  by_cases hlt : i < t.ports.length
  · have hx : t.ports[i]? = some t.ports[i] := List.getElem?_eq_getElem hlt
    have w1 : IntKind.i64.wrap ((i : Int) + 1) = ((i + 1 : Nat) : Int) := by rw [zU (by omega) (by omega)]; omega
    by_cases p1 : t.ports[i] < 1
    · have hf : t.ports.all (fun n => decide (1 ≤ n) && decide (n ≤ 4)) = false := by
        rw [List.all_eq_false]
        exact ⟨_, List.getElem_mem hlt, by simp; omega⟩
      (try ((first | with_reducible refine zk ?_ | with_reducible refine zm ?_ | with_reducible refine zo ?_); simp [zq, zy, iAV, a1, a3, hE, hlt, hx, w1, p1])); repeat' (first | ((first | refine zd ?_ | refine zh ?_ | refine dN (by decide +kernel) ?_ | (refine za ?_ ?_ <;> (intro hg; simp only [hg])) | fail) <;> simp [zq, zy, iAV, a1, a3, hE, hlt, hx, w1, p1]) | refine zg ?_ | refine zc ?_ | (refine zs ?_; simp only [zt]; try simp) | ((first | refine zl (by simp) ?_ | refine zw (by simp) (by simp) (by simp (maxDischargeDepth := 30) [zq, zy, iAV, a1, a3, hE, hlt, hx, w1, p1]) ?_ | fail); simp) | (refine zb (fun hc => ?_) (fun hc => ?_) <;> try simp at hc) | fail)
      all_goals simp [zce, hf]
    · by_cases p2 : 4 < t.ports[i]
      · have hf : t.ports.all (fun n => decide (1 ≤ n) && decide (n ≤ 4)) = false := by
          rw [List.all_eq_false]
          exact ⟨_, List.getElem_mem hlt, by simp; omega⟩
        (try ((first | with_reducible refine zk ?_ | with_reducible refine zm ?_ | with_reducible refine zo ?_); simp [zq, zy, iAV, a1, a3, hE, hlt, hx, w1, p1, p2])); repeat' (first | ((first | refine zd ?_ | refine zh ?_ | refine dN (by decide +kernel) ?_ | (refine za ?_ ?_ <;> (intro hg; simp only [hg])) | fail) <;> simp [zq, zy, iAV, a1, a3, hE, hlt, hx, w1, p1, p2]) | refine zg ?_ | refine zc ?_ | (refine zs ?_; simp only [zt]; try simp) | ((first | refine zl (by simp) ?_ | refine zw (by simp) (by simp) (by simp (maxDischargeDepth := 30) [zq, zy, iAV, a1, a3, hE, hlt, hx, w1, p1, p2]) ?_ | fail); simp) | (refine zb (fun hc => ?_) (fun hc => ?_) <;> try simp at hc) | fail)
        all_goals simp [zce, hf]
      · have hp : (decide (1 ≤ t.ports[i]) && decide (t.ports[i] ≤ 4)) = true := by
          rw [Bool.and_eq_true, decide_eq_true_eq, decide_eq_true_eq]; exact ⟨by omega, by omega⟩
        have hall' : (t.ports.take (i + 1)).all (fun n => decide (1 ≤ n) && decide (n ≤ 4)) = true := by
          rw [List.take_add_one, hx, List.all_append, hall, Option.toList_some, List.all_cons, hp]; rfl
        (try ((first | with_reducible refine zk ?_ | with_reducible refine zm ?_ | with_reducible refine zo ?_); simp [zq, zy, iAV, a1, a3, hE, hlt, hx, w1, p1, p2])); repeat' (first | ((first | refine zd ?_ | refine zh ?_ | refine dN (by decide +kernel) ?_ | (refine za ?_ ?_ <;> (intro hg; simp only [hg])) | fail) <;> simp [zq, zy, iAV, a1, a3, hE, hlt, hx, w1, p1, p2]) | refine zg ?_ | refine zc ?_ | (refine zs ?_; simp only [zt]; try simp) | ((first | refine zl (by simp) ?_ | refine zw (by simp) (by simp) (by simp (maxDischargeDepth := 30) [zq, zy, iAV, a1, a3, hE, hlt, hx, w1, p1, p2]) ?_ | fail); simp) | (refine zb (fun hc => ?_) (fun hc => ?_) <;> try simp at hc) | fail)
        exact hI1 (t.ports.length - (i + 1)) _ _ (by omega) ⟨hE, by simp [a1, zq, zy], i + 1, by simp, by omega, rfl, hall'⟩
  · have : i = t.ports.length := by omega
    subst this
    rw [List.take_length] at hall
    (try ((first | with_reducible refine zk ?_ | with_reducible refine zm ?_ | with_reducible refine zo ?_); simp [zq, zy, iAV, a1, a3, hE])); repeat' (first | ((first | refine zd ?_ | refine zh ?_ | refine dN (by decide +kernel) ?_ | (refine za ?_ ?_ <;> (intro hg; simp only [hg])) | fail) <;> simp [zq, zy, iAV, a1, a3, hE]) | refine zg ?_ | refine zc ?_ | (refine zs ?_; simp only [zt]; try simp) | ((first | refine zl (by simp) ?_ | refine zw (by simp) (by simp) (by simp (maxDischargeDepth := 30) [zq, zy, iAV, a1, a3, hE]) ?_ | fail); simp) | (refine zb (fun hc => ?_) (fun hc => ?_) <;> try simp at hc) | fail)
    refine zab (fun n B ρ => Ext σ ρ ∧ B 1 = .pp [zq t.ports f.p, zy t.links f.l] 0 ∧ ∃ (k : Nat) (v : AV), B 4 = v ∧ OwnL σ ρ 2 v ((zbd (t.links.take k)).map zS) ∧ B 5 = .raw (.int .i64 k) ∧ k ≤ t.links.length ∧ n = t.links.length - k) t.links.length ?_ ?_
    · exact ⟨hE, by simp [a1, zq, zy], 0, _, rfl, .inl ⟨by simp [zbd], by simp⟩, by simp, by omega, by omega⟩
    clear hE a1 a3 hI1 I1
    rintro n B ρ ⟨hE, a1, k, v, a4, hO, a5, hk, rfl⟩ I1 hI1
    have hfl : ∀ L : List Lk, (zbd L).length = 2 * L.length := by
      intro L; induction L with
      | nil => rfl
      | cons l L ih => simp only [zbd, List.length_cons, ih]; omega
    by_cases hlt : k < t.links.length
    · have hx : t.links[k]? = some t.links[k] := List.getElem?_eq_getElem hlt
      have w1 : IntKind.i64.wrap ((k : Int) + 1) = ((k + 1 : Nat) : Int) := by rw [zU (by omega) (by omega)]; omega
      have hfp : zbd (t.links.take (k + 1)) = zbd (t.links.take k) ++ [t.links[k].a, t.links[k].b] := by
        rw [List.take_add_one, hx]
        generalize t.links.take k = L
        induction L with
        | nil => rfl
        | cons l L ih => simp only [List.cons_append, zbd, ih]
      have fa : AV.agg [.raw (.int .i64 t.links[k].a.dev), .raw (.int .i64 t.links[k].a.port)] = zS t.links[k].a := rfl
      have fb : AV.agg [.raw (.int .i64 t.links[k].b.dev), .raw (.int .i64 t.links[k].b.port)] = zS t.links[k].b := rfl
      have hpc : ∀ q : Pt, (zS q).cells = [.raw (.int .i64 q.dev), .raw (.int .i64 q.port)] := fun q => rfl
      (try ((first | with_reducible refine zk ?_ | with_reducible refine zm ?_ | with_reducible refine zo ?_); simp [zy, zq, a1, a4, a5, hlt, hx, zbl, fa, fb, hpc, w1, -zO])); repeat' (first | ((first | refine zd ?_ | refine zh ?_ | refine dN (by decide +kernel) ?_ | (refine za ?_ ?_ <;> (intro hg; simp only [hg])) | fail) <;> simp [zy, zq, a1, a4, a5, hlt, hx, zbl, fa, fb, hpc, w1, -zO]) | refine zg ?_ | refine zc ?_ | (refine zs ?_; simp only [zt]; try simp) | ((first | refine zl (by simp) ?_ | refine zw (by simp) (by simp) (by simp (maxDischargeDepth := 30) [zy, zq, a1, a4, a5, hlt, hx, zbl, fa, fb, hpc, w1, -zO]) ?_ | fail); simp) | (refine zb (fun hc => ?_) (fun hc => ?_) <;> try simp at hc) | fail)
      refine zaV zpT (hO.ext (Ext.new _ _ _ _)) (hE.trans (Ext.new _ _ _ _)) (ys := [zS t.links[k].a, zS t.links[k].b]) (by simp) (.inr rfl) (by simp [hpc]) (by simp [hfl, Nat.min_eq_left hk]; omega) ?_
      intro v' τ' hO' hE' _ _
      (try ((first | with_reducible refine zk ?_ | with_reducible refine zm ?_ | with_reducible refine zo ?_); simp [zy, zq, a1, a4, a5, w1])); repeat' (first | ((first | refine zd ?_ | refine zh ?_ | refine dN (by decide +kernel) ?_ | (refine za ?_ ?_ <;> (intro hg; simp only [hg])) | fail) <;> simp [zy, zq, a1, a4, a5, w1]) | refine zg ?_ | refine zc ?_ | (refine zs ?_; simp only [zt]; try simp) | ((first | refine zl (by simp) ?_ | refine zw (by simp) (by simp) (by simp (maxDischargeDepth := 30) [zy, zq, a1, a4, a5, w1]) ?_ | fail); simp) | (refine zb (fun hc => ?_) (fun hc => ?_) <;> try simp at hc) | fail)
      exact hI1 (t.links.length - (k + 1)) _ _ (by omega) ⟨hE', by simp [a1, zq, zy], k + 1, v', by simp, by rw [hfp]; simpa using hO', by simp, by omega, rfl⟩
    · have : k = t.links.length := by omega
      subst this
      rw [List.take_length] at hO
      have hFl := hfl t.links
      obtain ⟨F, hF⟩ : ∃ F, zbd t.links = F := ⟨_, rfl⟩
      have hres : zce t = (F.all (hasB t) && zcM F) := by
        unfold zce
        rw [hF, hall, decide_eq_false q1, decide_eq_false q2, decide_eq_false q3]; rfl
      rw [hres]
      rw [hF] at hO hFl
      clear hres hI1 hall hfl
      have hpc : ∀ q : Pt, (zS q).cells = [.raw (.int .i64 q.dev), .raw (.int .i64 q.port)] := fun q => rfl
      have hpf : ∀ q : Pt, AV.agg [.raw (.int .i64 q.dev), .raw (.int .i64 q.port)] = zS q := fun q => rfl
      have htf : AV.agg [AV.sl 1 (t.ports.map iAV) f.p, AV.sl 4 (t.links.map zcw) f.l] = zaT t f := rfl
      have hbin : ∀ x y : Pt, zas Tryz.prog .eql 41 (zS x) (zS y) = some (.raw (.bool (decide (x = y)))) := fun x y => by
        have e1 : zas Tryz.prog .eql 41 (zS x) (zS y) = if Tryz.prog.eqGuardType Tryz.prog.depth 41 = false then (zaO Tryz.prog 4 41 (zS x) (zS y)).bind fun b => (zcf .eql b).map .raw else none := rfl
        have := ziW x y
        rw [e1, if_pos zmL]
        rw [show zaO Tryz.prog 4 41 (zS x) (zS y) = some (decide (x = y)) from this]
        rfl
      (try ((first | with_reducible refine zk ?_ | with_reducible refine zm ?_ | with_reducible refine zo ?_); simp [zy, zq, a1, a4, a5])); repeat' (first | ((first | refine zd ?_ | refine zh ?_ | refine dN (by decide +kernel) ?_ | (refine za ?_ ?_ <;> (intro hg; simp only [hg])) | fail) <;> simp [zy, zq, a1, a4, a5]) | refine zg ?_ | refine zc ?_ | (refine zs ?_; simp only [zt]; try simp) | ((first | refine zl (by simp) ?_ | refine zw (by simp) (by simp) (by simp (maxDischargeDepth := 30) [zy, zq, a1, a4, a5]) ?_ | fail); simp) | (refine zb (fun hc => ?_) (fun hc => ?_) <;> try simp at hc) | fail)
      refine zgg 4 (by simpa [a4] using hO) hE ?_
      intro A' τ' hE' e4 hf _ _ _ _
      have b1 : A' 1 = .pp [zq t.ports f.p, zy t.links f.l] 0 := by rw [hf 1 (by simp) (by simp [a1])]; simp [a1]
      have b6 : A' 6 = .raw (.int .i64 0) := by rw [hf 6 (by simp) (by simp)]; simp
      clear hf hE a1 a4 a5 hO
      refine zab (fun n B ρ => Ext σ ρ ∧ B 1 = .pp [zq t.ports f.p, zy t.links f.l] 0 ∧ B 4 = .sl 2 (F.map zS) false ∧ ∃ i : Nat, B 6 = .raw (.int .i64 i) ∧ i ≤ F.length ∧ n = F.length - i ∧ (F.take i).all (hasB t) = true ∧ (F.take i).Nodup) F.length ?_ ?_
      · exact ⟨hE', b1, e4, 0, by simp [b6], by omega, by omega, by simp, by simp⟩
      clear hE' b1 e4 b6
      rintro n B ρ ⟨hE, a1, a4, i, a6, hi, rfl, hal, hnd⟩ I1 hI1
      by_cases hlt : i < F.length
      · have hx : F[i]? = some F[i] := List.getElem?_eq_getElem hlt
        have w1 : IntKind.i64.wrap ((i : Int) + 1) = ((i + 1 : Nat) : Int) := by rw [zU (by omega) (by omega)]; omega
        have hh := zg1 t f F[i] hl
        by_cases hb : hasB t F[i] = true
        · rw [hb] at hh
          (try ((first | with_reducible refine zk ?_ | with_reducible refine zm ?_ | with_reducible refine zo ?_); simp [-cellOK, zy, zq, a1, a4, a6, hlt, hx, hpc, htf])); repeat' (first | ((first | refine zd ?_ | refine zh ?_ | refine dN (by decide +kernel) ?_ | refine dC (by decide +kernel) ?_ | refine uP (hh) ?_ | refine .inl ⟨_, .inl (hh), ?_⟩ | (refine za ?_ ?_ <;> (intro hg; simp only [hg])) | fail) <;> simp [-cellOK, zy, zq, a1, a4, a6, hlt, hx, hpc, htf]) | refine zg ?_ | refine zc ?_ | (refine zs ?_; simp only [zt]; try simp) | (refine zl (by simp) ?_; simp) | (refine zx (by simp) (by simp [noIds]) (by repeat (first | assumption | exact Ext.refl _ | refine zu ?_ | refine Ext.setF ?_ (by first | assumption | (simp [ze, St.set, zf]; done) | exact zp (by assumption)))) ?_; simp [-cellOK, zy, zq, a1, a4, a6, hlt, hx, hpc, htf, zL]) | (refine zb (fun hc => ?_) (fun hc => ?_) <;> try simp at hc) | fail)
          refine zab (fun n B ρ => Ext σ ρ ∧ B 1 = .pp [zq t.ports f.p, zy t.links f.l] 0 ∧ B 4 = .sl 2 (F.map zS) false ∧ B 6 = .raw (.int .i64 i) ∧ ∃ k : Nat, B 8 = .raw (.int .i64 k) ∧ k ≤ i ∧ n = i - k ∧ ∀ j, (hj : j < k) → (hji : j < F.length) → F[j] ≠ F[i]) i ?_ ?_
          · exact ⟨by simp [hE], by simp [a1, zy, zq], by simp [a4], by simp [a6], 0, by simp, by omega, by omega, fun j hj => by omega⟩
          rintro n C τ ⟨hE, a1, a4, a6, k, a8, hk, rfl, hne⟩ J1 hJ1
          by_cases hki : k < i
          · have hkl : k < F.length := by omega
            have hx2 : F[k]? = some F[k] := List.getElem?_eq_getElem hkl
            have w2 : IntKind.i64.wrap ((k : Int) + 1) = ((k + 1 : Nat) : Int) := by rw [zU (by omega) (by omega)]; omega
            by_cases he : F[k] = F[i]
            · have hnn : zcM F = false := by
                cases h : zcM F with
                | false => rfl
                | true =>
                  have := (zeL _).1 h
                  exact absurd he (List.pairwise_iff_getElem.1 this k i hkl hlt hki)
              have hd : decide (F[k] = F[i]) = true := decide_eq_true he
              rw [show (F.all (hasB t) && zcM F) = false by rw [hnn, Bool.and_false]]
              (try ((first | with_reducible refine zk ?_ | with_reducible refine zm ?_ | with_reducible refine zo ?_); simp [-cellOK, zy, zq, hE, a1, a4, a6, a8, hlt, hx, hkl, hki, hx2, w2, hpc, hpf, -zas, hbin, zae, hd])); repeat' (first | ((first | refine zd ?_ | refine zh ?_ | refine dN (by decide +kernel) ?_ | refine dC (by decide +kernel) ?_ | refine uP (hh) ?_ | refine .inl ⟨_, .inl (hh), ?_⟩ | (refine za ?_ ?_ <;> (intro hg; simp only [hg])) | fail) <;> simp [-cellOK, zy, zq, hE, a1, a4, a6, a8, hlt, hx, hkl, hki, hx2, w2, hpc, hpf, -zas, hbin, zae, hd]) | refine zg ?_ | refine zc ?_ | (refine zs ?_; simp only [zt]; try simp) | (refine zl (by simp) ?_; simp) | (refine zx (by simp) (by simp [noIds]) (by repeat (first | assumption | exact Ext.refl _ | refine zu ?_ | refine Ext.setF ?_ (by first | assumption | (simp [ze, St.set, zf]; done) | exact zp (by assumption)))) ?_; simp [-cellOK, zy, zq, hE, a1, a4, a6, a8, hlt, hx, hkl, hki, hx2, w2, hpc, hpf, -zas, hbin, zae, hd, zL]) | (refine zb (fun hc => ?_) (fun hc => ?_) <;> try simp at hc) | fail)
            · have hd : decide (F[k] = F[i]) = false := decide_eq_false he
              (try ((first | with_reducible refine zk ?_ | with_reducible refine zm ?_ | with_reducible refine zo ?_); simp [-cellOK, zy, zq, a1, a4, a6, a8, hlt, hx, hkl, hki, hx2, w2, hpc, hpf, -zas, hbin, zae, hd])); repeat' (first | ((first | refine zd ?_ | refine zh ?_ | refine dN (by decide +kernel) ?_ | refine dC (by decide +kernel) ?_ | refine uP (hh) ?_ | refine .inl ⟨_, .inl (hh), ?_⟩ | (refine za ?_ ?_ <;> (intro hg; simp only [hg])) | fail) <;> simp [-cellOK, zy, zq, a1, a4, a6, a8, hlt, hx, hkl, hki, hx2, w2, hpc, hpf, -zas, hbin, zae, hd]) | refine zg ?_ | refine zc ?_ | (refine zs ?_; simp only [zt]; try simp) | (refine zl (by simp) ?_; simp) | (refine zx (by simp) (by simp [noIds]) (by repeat (first | assumption | exact Ext.refl _ | refine zu ?_ | refine Ext.setF ?_ (by first | assumption | (simp [ze, St.set, zf]; done) | exact zp (by assumption)))) ?_; simp [-cellOK, zy, zq, a1, a4, a6, a8, hlt, hx, hkl, hki, hx2, w2, hpc, hpf, -zas, hbin, zae, hd, zL]) | (refine zb (fun hc => ?_) (fun hc => ?_) <;> try simp at hc) | fail)
              exact hJ1 (i - (k + 1)) _ _ (by omega) ⟨hE, by simp [a1, zy, zq], by simp [a4], by simp [a6], k + 1, by simp, by omega, rfl, fun j hj hji => by
                by_cases e : j = k
                · subst e; exact he
                · exact hne j (by omega) hji⟩
          · have : k = i := by omega
            subst this
            (try ((first | with_reducible refine zk ?_ | with_reducible refine zm ?_ | with_reducible refine zo ?_); simp [-cellOK, zy, zq, a1, a4, a6, a8, w1])); repeat' (first | ((first | refine zd ?_ | refine zh ?_ | refine dN (by decide +kernel) ?_ | refine dC (by decide +kernel) ?_ | refine uP (hh) ?_ | refine .inl ⟨_, .inl (hh), ?_⟩ | (refine za ?_ ?_ <;> (intro hg; simp only [hg])) | fail) <;> simp [-cellOK, zy, zq, a1, a4, a6, a8, w1]) | refine zg ?_ | refine zc ?_ | (refine zs ?_; simp only [zt]; try simp) | (refine zl (by simp) ?_; simp) | (refine zx (by simp) (by simp [noIds]) (by repeat (first | assumption | exact Ext.refl _ | refine zu ?_ | refine Ext.setF ?_ (by first | assumption | (simp [ze, St.set, zf]; done) | exact zp (by assumption)))) ?_; simp [-cellOK, zy, zq, a1, a4, a6, a8, w1, zL]) | (refine zb (fun hc => ?_) (fun hc => ?_) <;> try simp at hc) | fail)
            refine hI1 (F.length - (k + 1)) _ _ (by omega) ⟨hE, by simp [a1, zy, zq], by simp [a4], k + 1, by simp, by omega, rfl, ?_, ?_⟩
            · rw [List.take_add_one, hx, List.all_append, hal, Option.toList_some, List.all_cons, hb]; rfl
            · rw [List.take_add_one, hx, List.nodup_append]
              refine ⟨hnd, by simp, fun a ha b hbm e => ?_⟩
              simp only [Option.toList_some, List.mem_singleton] at hbm
              subst hbm; subst e
              obtain ⟨j, hj, e2⟩ := List.mem_iff_getElem.1 ha
              simp only [List.length_take] at hj
              rw [List.getElem_take] at e2
              exact hne j (by omega) (by omega) e2
        · have hb' : hasB t F[i] = false := by simpa using hb
          rw [hb'] at hh
          have hF0 : F.all (hasB t) = false := by
            rw [List.all_eq_false]
            exact ⟨_, List.getElem_mem hlt, by simp [hb']⟩
          rw [show (F.all (hasB t) && zcM F) = false by rw [hF0, Bool.false_and]]
          (try ((first | with_reducible refine zk ?_ | with_reducible refine zm ?_ | with_reducible refine zo ?_); simp [-cellOK, zy, zq, hE, a1, a4, a6, hlt, hx, hpc, hpf, htf])); repeat' (first | ((first | refine zd ?_ | refine zh ?_ | refine dN (by decide +kernel) ?_ | refine dC (by decide +kernel) ?_ | refine uP (hh) ?_ | refine .inl ⟨_, .inl (hh), ?_⟩ | (refine za ?_ ?_ <;> (intro hg; simp only [hg])) | fail) <;> simp [-cellOK, zy, zq, hE, a1, a4, a6, hlt, hx, hpc, hpf, htf]) | refine zg ?_ | refine zc ?_ | (refine zs ?_; simp only [zt]; try simp) | (refine zl (by simp) ?_; simp) | (refine zx (by simp) (by simp [noIds]) (by repeat (first | assumption | exact Ext.refl _ | refine zu ?_ | refine Ext.setF ?_ (by first | assumption | (simp [ze, St.set, zf]; done) | exact zp (by assumption)))) ?_; simp [-cellOK, zy, zq, hE, a1, a4, a6, hlt, hx, hpc, hpf, htf, zL]) | (refine zb (fun hc => ?_) (fun hc => ?_) <;> try simp at hc) | fail)
      · have : i = F.length := by omega
        subst this
        rw [List.take_length] at hal hnd
        have hnn := (zeL F).2 hnd
        rw [hal, hnn]
        (try ((first | with_reducible refine zk ?_ | with_reducible refine zm ?_ | with_reducible refine zo ?_); simp [-cellOK, zy, zq, hE, a1, a4, a6])); repeat' (first | ((first | refine zd ?_ | refine zh ?_ | refine dN (by decide +kernel) ?_ | refine dC (by decide +kernel) ?_ | (refine za ?_ ?_ <;> (intro hg; simp only [hg])) | fail) <;> simp [-cellOK, zy, zq, hE, a1, a4, a6]) | refine zg ?_ | refine zc ?_ | (refine zs ?_; simp only [zt]; try simp) | (refine zl (by simp) ?_; simp) | (refine zx (by simp) (by simp [noIds]) (by repeat (first | assumption | exact Ext.refl _ | refine zu ?_ | refine Ext.setF ?_ (by first | assumption | (simp [ze, St.set, zf]; done) | exact zp (by assumption)))) ?_; simp [-cellOK, zy, zq, hE, a1, a4, a6, zL]) | (refine zb (fun hc => ?_) (fun hc => ?_) <;> try simp at hc) | fail)
end Go.Proofs.YtanimmdlgmkmkaaGreat.Av
namespace Go.Proofs.YtanimmdlgmkmkaaGreat.Av
open Go
set_option linter.unusedSimpArgs false
set_option linter.unusedVariables false
set_option maxRecDepth 100000
set_option maxHeartbeats 2000000
set_option pp.maxSteps 300
def zhd (l : List Ru) (i : Nat) : Int := match i with | 0 => 0 | k + 1 => match l[k]? with | some r => r.id | none => 0
theorem zlm (l : List Ru) (f : Bool) (hl : l.length < 2932031007403) (hid : ∀ r ∈ l, -9223372036854775808 ≤ r.id ∧ r.id < 9223372036854775808) : PCalls Tryz.prog 123 [zE l f] (.raw (.bool (zd8 l))) := by
  refine zK Tryz.func123 rfl (N := 39) rfl rfl (by simp) (by simp [noIds]) fun σ => ?_
  (try ((first | with_reducible refine zk ?_ | with_reducible refine zm ?_ | with_reducible refine zo ?_); simp [zE])); repeat' (first | ((first | refine zd ?_ | refine zh ?_ | refine dN (by decide +kernel) ?_ | (refine za ?_ ?_ <;> (intro hg; simp only [hg])) | fail) <;> simp [zE]) | refine zg ?_ | refine zc ?_ | (refine zs ?_; simp only [zt]; try simp) | ((first | refine zl (by simp) ?_ | refine zw (by simp) (by simp) (by simp (maxDischargeDepth := 30) [zE]) ?_ | fail); simp) | (refine zb (fun hc => ?_) (fun hc => ?_) <;> try simp at hc) | fail)
  refine zab (fun n A τ => τ = σ ∧ A 0 = zE l f ∧ ∃ i : Nat, A 3 = .raw (.int .i64 i) ∧ i ≤ l.length ∧ n = l.length - i ∧ zdD 0 l = zdD (zhd l i) (l.drop i)) l.length ?_ ?_
  · exact ⟨rfl, by simp [zE], 0, by simp, by omega, by omega, by simp [zhd]⟩
  rintro n A τ ⟨rfl, a0, i, a3, hi, rfl, hall⟩ I1 hI1
  by_cases hlt : i < l.length
  · have hx : l[i]? = some l[i] := List.getElem?_eq_getElem hlt
    have w1 : IntKind.i64.wrap ((i : Int) + 1) = ((i + 1 : Nat) : Int) := by rw [zU (by omega) (by omega)]; omega
    have hd : l.drop i = l[i] :: l.drop (i + 1) := List.drop_eq_getElem_cons hlt
    rw [hd] at hall
    simp only [zdD] at hall
    obtain ⟨b, hb⟩ : ∃ b, zdO l[i] = b := ⟨_, rfl⟩
    have hr := hb ▸ zg2 l[i] (hid _ (List.getElem_mem _)).1 (hid _ (List.getElem_mem _)).2
    rw [hb] at hall
    (try ((first | with_reducible refine zk ?_ | with_reducible refine zm ?_ | with_reducible refine zo ?_); simp [zE, a0, a3, hlt, hx, zF, zam, zP, w1])); repeat' (first | ((first | refine zd ?_ | refine zh ?_ | refine dN (by decide +kernel) ?_ | (refine za ?_ ?_ <;> (intro hg; simp only [hg])) | fail) <;> simp [zE, a0, a3, hlt, hx, zF, zam, zP, w1]) | refine zg ?_ | refine zc ?_ | (refine zs ?_; simp only [zt]; try simp) | ((first | refine zl (by simp) ?_ | refine zw (by simp) (by simp) (by simp (maxDischargeDepth := 30) [zE, a0, a3, hlt, hx, zF, zam, zP, w1]) ?_ | fail); simp) | (refine zb (fun hc => ?_) (fun hc => ?_) <;> try simp at hc) | fail)
    refine PCalls.use hr ?_
    cases b with
    | false =>
      (try ((first | with_reducible refine zk ?_ | with_reducible refine zm ?_ | with_reducible refine zo ?_); simp [zE, a0, a3, hlt, hx, zF, zam, zP, w1])); repeat' (first | ((first | refine zd ?_ | refine zh ?_ | refine dN (by decide +kernel) ?_ | (refine za ?_ ?_ <;> (intro hg; simp only [hg])) | fail) <;> simp [zE, a0, a3, hlt, hx, zF, zam, zP, w1]) | refine zg ?_ | refine zc ?_ | (refine zs ?_; simp only [zt]; try simp) | ((first | refine zl (by simp) ?_ | refine zw (by simp) (by simp) (by simp (maxDischargeDepth := 30) [zE, a0, a3, hlt, hx, zF, zam, zP, w1]) ?_ | fail); simp) | (refine zb (fun hc => ?_) (fun hc => ?_) <;> try simp at hc) | fail)
      all_goals simp [zd8, hall]
    | true =>
      cases i with
      | zero =>
        have hpos : 1 ≤ l[0].id := by
          have := hb; unfold zdO at this; simp at this; omega
        (try ((first | with_reducible refine zk ?_ | with_reducible refine zm ?_ | with_reducible refine zo ?_); simp [zE, a0, a3, hlt, hx, zF, zam, zP, w1])); repeat' (first | ((first | refine zd ?_ | refine zh ?_ | refine dN (by decide +kernel) ?_ | (refine za ?_ ?_ <;> (intro hg; simp only [hg])) | fail) <;> simp [zE, a0, a3, hlt, hx, zF, zam, zP, w1]) | refine zg ?_ | refine zc ?_ | (refine zs ?_; simp only [zt]; try simp) | ((first | refine zl (by simp) ?_ | refine zw (by simp) (by simp) (by simp (maxDischargeDepth := 30) [zE, a0, a3, hlt, hx, zF, zam, zP, w1]) ?_ | fail); simp) | (refine zb (fun hc => ?_) (fun hc => ?_) <;> try simp at hc) | fail)
        have w0 : IntKind.i64.wrap 1 = 1 := zU (by omega) (by omega)
        have hx0 : l[0]? = some l[0] := hx
        have h0 : (0 : Int) < l[0].id := by omega
        have h1 : zhd l 1 = l[0].id := by simp [zhd, hx0]
        exact hI1 (l.length - 1) _ _ (by omega) ⟨rfl, by simp [a0, zE], 1, by simp [w0], by omega, rfl, by rw [hall, h1]; simp [zhd, h0]⟩
      | succ k =>
        have hk : k < l.length := by omega
        have hxk : l[k]? = some l[k] := List.getElem?_eq_getElem hk
        have w2 : IntKind.i64.wrap (k : Int) = k := zU (by omega) (by omega)
        have hp0 : (0 : Int) ≤ (k : Int) + 1 := by omega
        have htn : ((k : Int) + 1).toNat = k + 1 := by omega
        have w4 : IntKind.i64.wrap ((k : Int) + 1 + 1) = (k : Int) + 1 + 1 := zU (by omega) (by omega)
        have w3 : IntKind.i64.wrap ((k : Int) + 1 - 1) = k := by rw [zU (by omega) (by omega)]; omega
        have hidk : zhd l (k + 1) = l[k].id := by simp [zhd, hxk]
        rw [hidk] at hall
        have hpk : (0 : Int) < (k : Int) + 1 := by omega
        by_cases hle : l[k + 1].id ≤ l[k].id
        · have hnl : ¬ l[k].id < l[k + 1].id := by omega
          (try ((first | with_reducible refine zk ?_ | with_reducible refine zm ?_ | with_reducible refine zo ?_); simp [zE, a0, a3, hlt, hx, hk, hxk, zF, zam, zP, w1, w2, w3, w4, hp0, htn, hpk, hle])); repeat' (first | ((first | refine zd ?_ | refine zh ?_ | refine dN (by decide +kernel) ?_ | (refine za ?_ ?_ <;> (intro hg; simp only [hg])) | fail) <;> simp [zE, a0, a3, hlt, hx, hk, hxk, zF, zam, zP, w1, w2, w3, w4, hp0, htn, hpk, hle]) | refine zg ?_ | refine zc ?_ | (refine zs ?_; simp only [zt]; try simp) | ((first | refine zl (by simp) ?_ | refine zw (by simp) (by simp) (by simp (maxDischargeDepth := 30) [zE, a0, a3, hlt, hx, hk, hxk, zF, zam, zP, w1, w2, w3, w4, hp0, htn, hpk, hle]) ?_ | fail); simp) | (refine zb (fun hc => ?_) (fun hc => ?_) <;> try simp at hc) | fail)
          all_goals simp [zd8, hall, hnl]
        · have hg : l[k].id < l[k + 1].id := by omega
          (try ((first | with_reducible refine zk ?_ | with_reducible refine zm ?_ | with_reducible refine zo ?_); simp [zE, a0, a3, hlt, hx, hk, hxk, zF, zam, zP, w1, w2, w3, w4, hp0, htn, hpk, hle])); repeat' (first | ((first | refine zd ?_ | refine zh ?_ | refine dN (by decide +kernel) ?_ | (refine za ?_ ?_ <;> (intro hg; simp only [hg])) | fail) <;> simp [zE, a0, a3, hlt, hx, hk, hxk, zF, zam, zP, w1, w2, w3, w4, hp0, htn, hpk, hle]) | refine zg ?_ | refine zc ?_ | (refine zs ?_; simp only [zt]; try simp) | ((first | refine zl (by simp) ?_ | refine zw (by simp) (by simp) (by simp (maxDischargeDepth := 30) [zE, a0, a3, hlt, hx, hk, hxk, zF, zam, zP, w1, w2, w3, w4, hp0, htn, hpk, hle]) ?_ | fail); simp) | (refine zb (fun hc => ?_) (fun hc => ?_) <;> try simp at hc) | fail)
          exact hI1 (l.length - (k + 1 + 1)) _ _ (by omega) ⟨rfl, by simp [a0, zE], k + 1 + 1, by simp, by omega, rfl, by rw [hall]; simp [zhd, hx, hg]⟩
  · have : i = l.length := by omega
    subst this
    (try ((first | with_reducible refine zk ?_ | with_reducible refine zm ?_ | with_reducible refine zo ?_); simp [zE, a0, a3])); repeat' (first | ((first | refine zd ?_ | refine zh ?_ | refine dN (by decide +kernel) ?_ | (refine za ?_ ?_ <;> (intro hg; simp only [hg])) | fail) <;> simp [zE, a0, a3]) | refine zg ?_ | refine zc ?_ | (refine zs ?_; simp only [zt]; try simp) | ((first | refine zl (by simp) ?_ | refine zw (by simp) (by simp) (by simp (maxDischargeDepth := 30) [zE, a0, a3]) ?_ | fail); simp) | (refine zb (fun hc => ?_) (fun hc => ?_) <;> try simp at hc) | fail)
    rw [List.drop_length] at hall
    simp only [zdD] at hall
    simp [zd8, hall]
    omega
end Go.Proofs.YtanimmdlgmkmkaaGreat.Av
namespace Go.Proofs.YtanimmdlgmkmkaaGreat.Av
open Go
set_option linter.unusedSimpArgs false
set_option linter.unusedVariables false
set_option maxRecDepth 100000
set_option maxHeartbeats 4000000
set_option pp.maxSteps 600
theorem zig (n : Nw) (f : Fl) (hn : NwOK n) : PCalls Tryz.prog 73 [z7 n f] (.raw (.bool (zar n))) := by
  have l1 := hn.ports
  have l2 := hn.links
  have l3 := hn.rules
  have h1 := zjB n.t f (by omega) l2
  have h2 := zlm n.rules f.r l3 hn.id
  have h3 := zkj n.t f n.rules f.r (by omega) (by omega)
  rw [← znN] at h1
  unfold zar
  have htf : ∀ (N : Nw) (F : Fl), AV.agg [zq N.t.ports F.p, zy N.t.links F.l] = zaT N.t F := fun _ _ => rfl
  generalize zdN n.t = b1 at h1 ⊢
  generalize zd8 n.rules = b2 at h2 ⊢
  generalize zgm n.t n.rules = b3 at h3 ⊢
  refine zK Tryz.func73 rfl (N := 22) rfl rfl (by simp) (by simp [noIds]) fun σ => ?_
  cases b1 <;> cases b2 <;> ((try ((first | with_reducible refine zk ?_ | with_reducible refine zm ?_ | with_reducible refine zo ?_); simp [-cellOK, zr, htf])); repeat' (first | ((first | refine zd ?_ | refine zh ?_ | refine dN (by decide +kernel) ?_ | refine dC (by decide +kernel) ?_ | refine uP (h1) ?_ | refine .inl ⟨_, .inl (h1), ?_⟩ | refine uP (h2) ?_ | refine .inl ⟨_, .inl (h2), ?_⟩ | refine uP (h3) ?_ | refine .inl ⟨_, .inl (h3), ?_⟩ | (refine za ?_ ?_ <;> (intro hg; simp only [hg])) | fail) <;> simp [-cellOK, zr, htf]) | refine zg ?_ | refine zc ?_ | (refine zs ?_; simp only [zt]; try simp) | (refine zl (by simp) ?_; simp) | (refine zx (by simp) (by simp [noIds]) (by repeat (first | assumption | exact Ext.refl _ | refine zu ?_ | refine Ext.setF ?_ (by first | assumption | (simp [ze, St.set, zf]; done) | exact zp (by assumption)))) ?_; simp [-cellOK, zr, htf, zL]) | (refine zb (fun hc => ?_) (fun hc => ?_) <;> try simp at hc) | fail))
def zdW (n : Nw) : Bool := !decide (20 < n.t.ports.length) && (!decide (40 < n.t.links.length) && (!decide (60 < n.rules.length) && zar n))
structure NwW (n : Nw) : Prop where
  rg : ∀ r ∈ n.rules, RgOK r.r
  id : ∀ r ∈ n.rules, -9223372036854775808 ≤ r.id ∧ r.id < 9223372036854775808
theorem NwOK.w {n : Nw} (h : NwOK n) : NwW n := ⟨h.rg, h.id⟩
theorem NwW.small {n : Nw} (h : NwW n) (h1 : ¬ 20 < n.t.ports.length) (h2 : ¬ 40 < n.t.links.length) (h3 : ¬ 60 < n.rules.length) : NwOK n where
  rg := h.rg
  id := h.id
  ports := by omega
  links := by omega
  rules := by omega
theorem NwW.fits {n : Nw} (h : NwW n) (hf : zdW n = true) : NwOK n := by
  unfold zdW at hf
  simp only [Bool.and_eq_true, Bool.not_eq_true', decide_eq_false_iff_not] at hf
  exact h.small hf.1 hf.2.1 hf.2.2.1
theorem zhe (n : Nw) (f : Fl) (hn : NwW n) : PCalls Tryz.prog 24 [z7 n f] (.raw (.bool (zdW n))) := by
  have h1 := fun a b c => zig n f (hn.small a b c)
  unfold zdW
  generalize zar n = b1 at h1 ⊢
  have hp : ∀ m, z9 Tryz.prog m 22 (zq n.t.ports f.p) = some (.raw (.int .i64 n.t.ports.length)) := fun m => by simp [zq]
  have hk : ∀ m, z9 Tryz.prog m 23 (zy n.t.links f.l) = some (.raw (.int .i64 n.t.links.length)) := fun m => by simp [zy]
  have hu : ∀ m, z9 Tryz.prog m 26 (zE n.rules f.r) = some (.raw (.int .i64 n.rules.length)) := fun m => by simp [zE]
  generalize n.t.ports.length = x at hp h1 ⊢
  generalize n.t.links.length = y at hk h1 ⊢
  generalize n.rules.length = z at hu h1 ⊢
  refine zK Tryz.func24 rfl (N := 25) rfl rfl (by simp) (by simp [noIds]) fun σ => ?_
  by_cases q1 : 20 < x
  · have q1' : (20 : Int) < (x : Int) := by omega
    (try ((first | with_reducible refine zk ?_ | with_reducible refine zm ?_ | with_reducible refine zo ?_); simp [-cellOK, zr, zC, -z9, hp, hk, hu, q1, q1'])); repeat' (first | ((first | refine zd ?_ | refine zh ?_ | refine dN (by decide +kernel) ?_ | refine dC (by decide +kernel) ?_ | (refine za ?_ ?_ <;> (intro hg; simp only [hg])) | fail) <;> simp [-cellOK, zr, zC, -z9, hp, hk, hu, q1, q1']) | refine zg ?_ | refine zc ?_ | (refine zs ?_; simp only [zt]; try simp) | (refine zl (by simp) ?_; simp) | (refine zx (by simp) (by simp [noIds]) (by repeat (first | assumption | exact Ext.refl _ | refine zu ?_ | refine Ext.setF ?_ (by first | assumption | (simp [ze, St.set, zf]; done) | exact zp (by assumption)))) ?_; simp [-cellOK, zr, zC, -z9, hp, hk, hu, q1, q1', zL]) | (refine zb (fun hc => ?_) (fun hc => ?_) <;> try simp at hc) | fail)
  have q1' : ¬ (20 : Int) < (x : Int) := by omega
  by_cases q2 : 40 < y
  · have q2' : (40 : Int) < (y : Int) := by omega
    (try ((first | with_reducible refine zk ?_ | with_reducible refine zm ?_ | with_reducible refine zo ?_); simp [-cellOK, zr, zC, -z9, hp, hk, hu, q1, q1', q2, q2'])); repeat' (first | ((first | refine zd ?_ | refine zh ?_ | refine dN (by decide +kernel) ?_ | refine dC (by decide +kernel) ?_ | (refine za ?_ ?_ <;> (intro hg; simp only [hg])) | fail) <;> simp [-cellOK, zr, zC, -z9, hp, hk, hu, q1, q1', q2, q2']) | refine zg ?_ | refine zc ?_ | (refine zs ?_; simp only [zt]; try simp) | (refine zl (by simp) ?_; simp) | (refine zx (by simp) (by simp [noIds]) (by repeat (first | assumption | exact Ext.refl _ | refine zu ?_ | refine Ext.setF ?_ (by first | assumption | (simp [ze, St.set, zf]; done) | exact zp (by assumption)))) ?_; simp [-cellOK, zr, zC, -z9, hp, hk, hu, q1, q1', q2, q2', zL]) | (refine zb (fun hc => ?_) (fun hc => ?_) <;> try simp at hc) | fail)
  have q2' : ¬ (40 : Int) < (y : Int) := by omega
  by_cases q3 : 60 < z
  · have q3' : (60 : Int) < (z : Int) := by omega
    (try ((first | with_reducible refine zk ?_ | with_reducible refine zm ?_ | with_reducible refine zo ?_); simp [-cellOK, zr, zC, -z9, hp, hk, hu, q1, q1', q2, q2', q3, q3'])); repeat' (first | ((first | refine zd ?_ | refine zh ?_ | refine dN (by decide +kernel) ?_ | refine dC (by decide +kernel) ?_ | (refine za ?_ ?_ <;> (intro hg; simp only [hg])) | fail) <;> simp [-cellOK, zr, zC, -z9, hp, hk, hu, q1, q1', q2, q2', q3, q3']) | refine zg ?_ | refine zc ?_ | (refine zs ?_; simp only [zt]; try simp) | (refine zl (by simp) ?_; simp) | (refine zx (by simp) (by simp [noIds]) (by repeat (first | assumption | exact Ext.refl _ | refine zu ?_ | refine Ext.setF ?_ (by first | assumption | (simp [ze, St.set, zf]; done) | exact zp (by assumption)))) ?_; simp [-cellOK, zr, zC, -z9, hp, hk, hu, q1, q1', q2, q2', q3, q3', zL]) | (refine zb (fun hc => ?_) (fun hc => ?_) <;> try simp at hc) | fail)
  have q3' : ¬ (60 : Int) < (z : Int) := by omega
  have h1 := h1 q1 q2 q3
  (try ((first | with_reducible refine zk ?_ | with_reducible refine zm ?_ | with_reducible refine zo ?_); simp [-cellOK, zr, zC, -z9, hp, hk, hu, q1, q1', q2, q2', q3, q3'])); repeat' (first | ((first | refine zd ?_ | refine zh ?_ | refine dN (by decide +kernel) ?_ | refine dC (by decide +kernel) ?_ | refine uP (h1) ?_ | refine .inl ⟨_, .inl (h1), ?_⟩ | (refine za ?_ ?_ <;> (intro hg; simp only [hg])) | fail) <;> simp [-cellOK, zr, zC, -z9, hp, hk, hu, q1, q1', q2, q2', q3, q3']) | refine zg ?_ | refine zc ?_ | (refine zs ?_; simp only [zt]; try simp) | (refine zl (by simp) ?_; simp) | (refine zx (by simp) (by simp [noIds]) (by repeat (first | assumption | exact Ext.refl _ | refine zu ?_ | refine Ext.setF ?_ (by first | assumption | (simp [ze, St.set, zf]; done) | exact zp (by assumption)))) ?_; simp [-cellOK, zr, zC, -z9, hp, hk, hu, q1, q1', q2, q2', q3, q3', zL]) | (refine zb (fun hc => ?_) (fun hc => ?_) <;> try simp at hc) | fail)
def zgs (n m : Nw) (f g : Fl) : AV := .agg ((z7 n f).cells ++ (z7 m g).cells)
theorem za7 (n m : Nw) (f g : Fl) : (zgs n m f g).cells = [zq n.t.ports f.p, zy n.t.links f.l, zE n.rules f.r, zq m.t.ports g.p, zy m.t.links g.l, zE m.rules g.r] := rfl
theorem zb4 (n m : Nw) (f g : Fl) : AV.agg [zq n.t.ports f.p, zy n.t.links f.l, zE n.rules f.r, zq m.t.ports g.p, zy m.t.links g.l, zE m.rules g.r] = zgs n m f g := rfl
def zhf (n m : Nw) (q : Qy) : Bool := zdW n && (zdW m && decide (q.other.size ≤ 60))
theorem zln (n m : Nw) (f g : Fl) (q : Qy) (hn : NwW n) (hm : NwW m) : PCalls Tryz.prog 13 [zgs n m f g, zaH q] (.raw (.bool (zhf n m q))) := by
  have h1 := zhe n f hn
  have h2 := zhe m g hm
  unfold zhf
  generalize zdW n = b1 at h1 ⊢
  generalize zdW m = b2 at h2 ⊢
  generalize hz : q.other.size = z
  have hz' : (q.other.size : Int) = z := by rw [hz]
  refine zK Tryz.func13 rfl (N := 23) rfl rfl (by simp) (by simp [noIds]) fun σ => ?_
  have hdz : decide ((z : Int) ≤ 60) = decide (z ≤ 60) := by congr 1; exact propext (by omega)
  cases b1 <;> cases b2 <;> ((try ((first | with_reducible refine zk ?_ | with_reducible refine zm ?_ | with_reducible refine zo ?_); simp [-cellOK, za7, zC, zv, hz', hdz])); repeat' (first | ((first | refine zd ?_ | refine zh ?_ | refine dN (by decide +kernel) ?_ | refine dC (by decide +kernel) ?_ | refine uP (h1) ?_ | refine .inl ⟨_, .inl (h1), ?_⟩ | refine uP (h2) ?_ | refine .inl ⟨_, .inl (h2), ?_⟩ | (refine za ?_ ?_ <;> (intro hg; simp only [hg])) | fail) <;> simp [-cellOK, za7, zC, zv, hz', hdz]) | refine zg ?_ | refine zc ?_ | (refine zs ?_; simp only [zt]; try simp) | (refine zl (by simp) ?_; simp) | (refine zx (by simp) (by simp [noIds]) (by repeat (first | assumption | exact Ext.refl _ | refine zu ?_ | refine Ext.setF ?_ (by first | assumption | (simp [ze, St.set, zf]; done) | exact zp (by assumption)))) ?_; simp [-cellOK, za7, zC, zv, hz', hdz, zL]) | (refine zb (fun hc => ?_) (fun hc => ?_) <;> try simp at hc) | fail))
def zbJ : Nw := ⟨⟨[2, 3, 2], [⟨⟨0, 1⟩, ⟨1, 0⟩⟩, ⟨⟨1, 1⟩, ⟨2, 0⟩⟩]⟩, [⟨1, 0, 0, 0, ⟨0, 99⟩, 1⟩, ⟨2, 1, 0, 0, ⟨0, 49⟩, 1⟩, ⟨3, 1, 0, 0, ⟨50, 59⟩, 0⟩, ⟨4, 2, 0, 0, ⟨0, 29⟩, 1⟩, ⟨5, 2, 0, 3, ⟨20, 24⟩, 0⟩]⟩
def flN : Fl := ⟨false, false, false⟩
theorem zhz : NwOK zbJ where
  rg := by
    intro r hr
    simp only [zbJ, List.mem_cons, List.not_mem_nil, or_false] at hr
    rcases hr with rfl | rfl | rfl | rfl | rfl <;> exact ⟨by decide, by decide, by decide, by decide⟩
  ports := by decide
  links := by decide
  rules := by decide
  id := by
    intro r hr
    simp only [zbJ, List.mem_cons, List.not_mem_nil, or_false] at hr
    rcases hr with rfl | rfl | rfl | rfl | rfl <;> exact ⟨by decide, by decide⟩
theorem znO : PCalls Tryz.prog 61 [] (z7 zbJ flN) := by
  refine zK Tryz.func61 rfl (N := 26) rfl rfl (by simp) (by simp [noIds]) fun σ => ?_
  (try ((first | with_reducible refine zk ?_ | with_reducible refine zm ?_ | with_reducible refine zo ?_); simp [-cellOK, zz, zA, ze])); repeat' (first | ((first | refine zd ?_ | refine zh ?_ | refine dN (by decide +kernel) ?_ | refine dC (by decide +kernel) ?_ | (refine za ?_ ?_ <;> (intro hg; simp only [hg])) | fail) <;> simp [-cellOK, zz, zA, ze]) | refine zg ?_ | refine zc ?_ | (refine zs ?_; simp only [zt]; try simp) | (refine zb (fun hc => ?_) (fun hc => ?_) <;> try simp at hc) | fail)
  refine zbk (x := .agg [.rs ⟨3, σ.nx 3, 1⟩ 0 3, .rs ⟨10, σ.nx 10, 4⟩ 0 2, .rs ⟨22, σ.nx 22, 7⟩ 0 5]) (.inr rfl) (by repeat (first | assumption | exact Ext.refl _ | refine zu ?_ | refine Ext.setF ?_ (by first | assumption | (simp [ze, St.set, zf]; done) | exact zp (by assumption)))) ?_ ?_
  · simp [zz, zA, ze]
  · simp [zak, zD, zf, zz, zA, ze, z7, zq, zy, zE, zbJ, flN, iAV, zcw, zac]
def aq1 : Qy := ⟨0, 0, 2, 0, ⟨5, 30⟩, ⟨#[]⟩⟩
def aq2 : Qy := ⟨4, 0, 2, 1, ⟨0, 4294967295⟩, ⟨#[]⟩⟩
def aq3 : Qy := ⟨1, 0, 0, 0, ⟨0, 59⟩, ⟨#[]⟩⟩
end Go.Proofs.YtanimmdlgmkmkaaGreat.Av
namespace Go.Proofs.YtanimmdlgmkmkaaGreat.Av
set_option linter.unusedSimpArgs false
set_option linter.unusedVariables false
theorem znP (n : Nw) (d : Int) : zcu n d = false ↔ 0 ≤ d ∧ d < n.t.ports.length := by
  unfold zcu
  simp only [Bool.or_eq_false_iff, decide_eq_false_iff_not]
  omega
structure RightQ (n : Nw) (q : Qy) : Prop where
  k0 : 0 ≤ q.kind
  k5 : q.kind ≤ 5
  le : q.r.lo ≤ q.r.hi
  a : 0 ≤ q.a ∧ q.a < n.t.ports.length
  b : 0 ≤ q.b ∧ q.b < n.t.ports.length
  w : 0 ≤ q.w ∧ q.w < n.t.ports.length
  one : zcE q = true ∨ (q.a = 0 ∧ q.b = 0)
  way : q.kind = 4 ∨ q.w = 0
  oth : q.kind = 5 ∨ zhx q = true
theorem zgt (n : Nw) (q : Qy) : zaS n q = true ↔ RightQ n q := by
  unfold zaS
  simp only [List.any_cons, List.any_nil, Bool.or_false, Bool.and_eq_true, Bool.not_eq_true', Bool.or_eq_false_iff, znP, decide_eq_false_iff_not, Bool.or_eq_true, decide_eq_true_eq]
  constructor
  · rintro ⟨⟨h1, h2, h3⟩, ⟨h4, h5, h6⟩, h7, h8, h9⟩
    exact ⟨by omega, by omega, by omega, h4, h5, h6, h7, h8, h9⟩
  · rintro ⟨h1, h2, h3, h4, h5, h6, h7, h8, h9⟩
    exact ⟨⟨by omega, by omega, by omega⟩, ⟨h4, h5, h6⟩, h7, h8, h9⟩
theorem zhg {n : Nw} {q : Qy} (h : RightQ n q) {d : Int} (hd : d ∈ zX n q) : 0 ≤ d ∧ d < n.t.ports.length := by
  unfold zX at hd
  split at hd
  · simp only [List.mem_singleton] at hd; subst hd; exact h.a
  · simp only [List.mem_map, List.mem_range] at hd
    obtain ⟨i, hi, rfl⟩ := hd
    omega
theorem zdu {n : Nw} {d : Int} (h : 0 ≤ d ∧ d < n.t.ports.length) (a : Int) : zaD n d a = (zaa n d a, 0) := by
  unfold zaD
  rw [if_neg (by omega)]
theorem znQ {q : Qy} (h : q.kind ≠ 5) (t u u' : Tk) : zaz q t u = zaz q t u' := by
  unfold zaz
  repeat' split
  all_goals first | rfl | (exfalso; exact h (by assumption))
structure RunOK (n m : Nw) (q : Qy) (v : Vd) (M : Nw) : Prop where
  right : RightQ n q
  top : q.kind = 5 → n.t = m.t
  other : M = if q.kind = 5 then m else n
  res : (v = ⟨true, 0, 0, zc2⟩ ∧ zcU n M q (zbZ [n, M] q.r) (zX n q) = none) ∨ zcU n M q (zbZ [n, M] q.r) (zX n q) = some v
theorem zp3 {n m : Nw} {q : Qy} (h : RightQ n q) (ht : q.kind = 5 → n.t = m.t) : zdl n m q = match zcU n (if q.kind = 5 then m else n) q (zbZ [n, if q.kind = 5 then m else n] q.r) (zX n q) with
    | some v => (v, 0)
    | none => (⟨true, 0, 0, zc2⟩, 0) := by
  have hb : ¬ (zaS n q = false ∨ (q.kind = 5 ∧ n.t ≠ m.t)) := by
    rintro (h1 | ⟨h1, h2⟩)
    · rw [(zgt n q).2 h] at h1; cases h1
    · exact h2 (ht h1)
  unfold zdl
  rw [if_neg hb]
  all_goals rfl
structure Broken (n m : Nw) (q : Qy) (v : Vd) : Prop where
  lo : q.r.lo ≤ v.addr
  hi : v.addr ≤ q.r.hi
  dev : q.kind = 5 → (zaD m v.src v.addr).2 = 0
  gen : zox n v.addr v.tr = true
  head : ∃ l, v.tr.path = v.src :: l
  brk : zaz q v.tr (zaD m v.src v.addr).1 = true
end Go.Proofs.YtanimmdlgmkmkaaGreat.Av
namespace Go.Proofs.YtanimmdlgmkmkaaGreat.Av
open Go
set_option linter.unusedSimpArgs false
set_option linter.unusedVariables false
set_option maxRecDepth 100000
set_option maxHeartbeats 4000000
set_option pp.maxSteps 600
theorem zm4 {P : Program} {f : FuncId} {sz : Nat} {fl : Bool} {r : AV} (h : ∀ b cap, PCalls P f [.raw (.slice b 0 cap)] r) : PCalls P f [.sl sz [] fl] r :=
  ⟨(h none 0).1, fun σ => ziX fun b cap => (h b cap).2 σ⟩
theorem zmk : ∀ z : List Int, zaE (zV (z.map iAV)) = true := fun z => by
  induction z with
  | nil => rfl
  | cons r z ih => simp [zV, iAV, zaE, cellOK] at ih ⊢; try exact ih
theorem zjC (l : List Int) (f : Bool) (hl : l.length < 2 ^ 44) : PCalls Tryz.prog 88 [zq l f] (zq l false) := by
  cases l with
  | nil =>
    simp only [zq, List.map_nil]
    refine zm4 fun b cap => ?_
    refine zK Tryz.func88 rfl (N := 8) rfl rfl (by simp) (by simp [noIds]) fun σ => ?_
    cases b with
    | none =>
      (try ((first | with_reducible refine zk ?_ | with_reducible refine zm ?_ | with_reducible refine zo ?_); simp [-cellOK])); repeat' (first | ((first | refine zd ?_ | refine zh ?_ | refine dN (by decide +kernel) ?_ | refine dC (by decide +kernel) ?_ | (refine za ?_ ?_ <;> (intro hg; simp only [hg])) | fail) <;> simp [-cellOK]) | refine zg ?_ | refine zc ?_ | (refine zs ?_; simp only [zt]; try simp) | (refine zb (fun hc => ?_) (fun hc => ?_) <;> try simp at hc) | fail)
      exact zcF (x := .sl 0 [] true) (.inr rfl) (by repeat (first | assumption | exact Ext.refl _ | refine zu ?_ | refine Ext.setF ?_ (by first | assumption | (simp [ze, St.set, zf]; done) | exact zp (by assumption)))) (by simp) (by simp only [zak, zD]; exact zbD)
    | some b =>
      (try ((first | with_reducible refine zk ?_ | with_reducible refine zm ?_ | with_reducible refine zo ?_); simp [-cellOK, -zO])); repeat' (first | ((first | refine zd ?_ | refine zh ?_ | refine dN (by decide +kernel) ?_ | refine dC (by decide +kernel) ?_ | (refine za ?_ ?_ <;> (intro hg; simp only [hg])) | fail) <;> simp [-cellOK, -zO]) | refine zg ?_ | refine zc ?_ | (refine zs ?_; simp only [zt]; try simp) | (refine zb (fun hc => ?_) (fun hc => ?_) <;> try simp at hc) | fail)
      refine zaV zel (σ0 := σ) (es := []) (OwnL.of rfl (by simp) (zf _ _ _) rfl) (Ext.new _ _ _ _) (ys := []) (by simp) (.inl rfl) rfl (by simp) ?_
      intro v1 τ1 hO1 hE1 _ _
      rw [List.nil_append] at hO1
      (try ((first | with_reducible refine zk ?_ | with_reducible refine zm ?_ | with_reducible refine zo ?_); simp [-cellOK, -zO])); repeat' (first | ((first | refine zd ?_ | refine zh ?_ | refine dN (by decide +kernel) ?_ | refine dC (by decide +kernel) ?_ | (refine za ?_ ?_ <;> (intro hg; simp only [hg])) | fail) <;> simp [-cellOK, -zO]) | refine zg ?_ | refine zc ?_ | (refine zs ?_; simp only [zt]; try simp) | (refine zb (fun hc => ?_) (fun hc => ?_) <;> try simp at hc) | fail)
      exact zds (v := v1) (.inr rfl) (by simp) hO1 hE1
  | cons r l =>
    refine zK Tryz.func88 rfl (N := 8) rfl rfl (by simp) (by simp [noIds]) fun σ => ?_
    (try ((first | with_reducible refine zk ?_ | with_reducible refine zm ?_ | with_reducible refine zo ?_); simp [-cellOK, zq, -zO])); repeat' (first | ((first | refine zd ?_ | refine zh ?_ | refine dN (by decide +kernel) ?_ | refine dC (by decide +kernel) ?_ | (refine za ?_ ?_ <;> (intro hg; simp only [hg])) | fail) <;> simp [-cellOK, zq, -zO]) | refine zg ?_ | refine zc ?_ | (refine zs ?_; simp only [zt]; try simp) | (refine zb (fun hc => ?_) (fun hc => ?_) <;> try simp at hc) | fail)
    refine zaV zel (σ0 := σ) (es := []) (OwnL.of rfl (by simp) (zf _ _ _) rfl) (Ext.new _ _ _ _) (ys := (r :: l).map iAV) (by simp) (.inr rfl) (zmk _) (by simp at hl ⊢; omega) ?_
    intro v1 τ1 hO1 hE1 _ _
    rw [List.nil_append] at hO1
    (try ((first | with_reducible refine zk ?_ | with_reducible refine zm ?_ | with_reducible refine zo ?_); simp [-cellOK, -zO])); repeat' (first | ((first | refine zd ?_ | refine zh ?_ | refine dN (by decide +kernel) ?_ | refine dC (by decide +kernel) ?_ | (refine za ?_ ?_ <;> (intro hg; simp only [hg])) | fail) <;> simp [-cellOK, -zO]) | refine zg ?_ | refine zc ?_ | (refine zs ?_; simp only [zt]; try simp) | (refine zb (fun hc => ?_) (fun hc => ?_) <;> try simp at hc) | fail)
    exact zds (v := v1) (.inr rfl) (by simp) hO1 hE1
def atI (n : Nw) (d a : Int) : Int := if (zZ n d a).1 = 2 then -3 else if (zZ n d a).1 = 1 then -2 else if (zZ n d a).1 = 0 then -1 else (zZ n d a).2.port
def zp4 (n : Nw) (T : Option Tab) (d : Int) : List Int := (List.range (T.getD zad).b.sz.toNat).map fun i : Nat => atI n d ((zgo T i).getD ⟨0, 0⟩).lo
end Go.Proofs.YtanimmdlgmkmkaaGreat.Av
namespace Go.Proofs.YtanimmdlgmkmkaaGreat.Av
open Go
set_option linter.unusedSimpArgs false
set_option linter.unusedVariables false
set_option maxRecDepth 100000
set_option maxHeartbeats 4000000
set_option pp.maxSteps 600
theorem zja {P : Program} {f : FuncId} {σ0 σ : St} {n : Nat} {a v r : AV} {es : List AV} (h : PCalls P f [.sl n es false, a] r) (hr : r.plain = true) (hO : OwnP σ0 σ n v es) : RCalls P σ.m f [v, a] r := by
  rcases hO with ⟨rfl, rfl⟩ | ⟨j, rest, rfl, hj, hm, hn⟩
  · refine .inl ⟨h.1, fun σ => ACalls.args (bs := [.sl n [] false, a]) (fun S vs hl => ?_) (h.2 σ)⟩
    simp only [LRel] at hl ⊢
    obtain ⟨w, ws, e2, h2, v, us, e, h1, h3⟩ := hl
    exact ⟨w, ws, e2, zbD _ _ h2, v, us, e, h1, h3⟩
  · refine .inr ⟨[.sl n es false, a], ?_, h, hr⟩
    simp only [zcS]
    exact ⟨_, _, rfl, .inr ⟨es ++ rest, hm, by simp, by simp [hj]⟩, _, _, rfl, .inl rfl, rfl⟩
def zbL (c : Nat → AV) : List AV := [c 0, c 1, c 2, c 3, c 4, c 5, c 6, c 7, c 8, c 9, c 10, c 11, c 12, c 13, c 14, c 15, c 16, c 17, c 18, c 19, c 20, c 21, c 22, c 23, c 24, c 25, c 26, c 27, c 28, c 29, c 30, c 31, c 32, c 33]
def upc (c : Nat → AV) (k : Nat) (x : AV) : Nat → AV := fun j => if j = k then x else c j
def OwnB (σ : St) (v : AV) (es : List AV) : Prop := (es = [] ∧ v = .sl 0 [] true) ∨ ∃ j, v = .rs j 0 es.length ∧ j.sz = 1 ∧ σ.m j = some (.buf es)
def zbr (v : AV) (j : Id) : Prop := ∃ l, v = .rs j 0 l
theorem OwnB.toL {σ : St} {v : AV} {es : List AV} (h : OwnB σ v es) : ∃ σ0, OwnL σ0 σ 1 v es ∧ Ext σ0 σ ∧ (∀ i o, σ.m i = some o → ¬ zbr v i → σ0.m i = some o) ∧ (∀ i, zbr v i → σ0.m i = none) ∧ (∀ i, σ.m i = none → σ0.m i = none) ∧ σ0.nx = σ.nx := by
  rcases h with ⟨rfl, rfl⟩ | ⟨j, rfl, hj, hm⟩
  · exact ⟨σ, .inl ⟨rfl, rfl⟩, Ext.refl _, fun i o h _ => h, (fun i ⟨l, e⟩ => by cases e), fun i h => h, rfl⟩
  · refine ⟨σ.del j, .inr ⟨j, rfl, hj, hm, by simp [St.del]⟩, ⟨fun i o h => ?_, fun s => Nat.le_refl _⟩, fun i o h hn => ?_, fun i hi => ?_, fun i h => ?_, rfl⟩
    · by_cases e : i = j
      · subst e; simp [St.del] at h
      · rwa [zag e] at h
    · rw [zag (fun e => hn ⟨es.length, by rw [e]⟩)]; exact h
    · obtain ⟨l, e⟩ := hi
      injection e with e
      subst e; simp [St.del]
    · by_cases e : i = j
      · subst e; simp [St.del]
      · rw [zag e]; exact h
theorem OwnB.ne {σ : St} {v : AV} {es : List AV} (h : OwnB σ v es) {i : Id} (n : ¬ zbr v i) : ∀ a l, v ≠ .rs i a l := by
  rcases h with ⟨rfl, rfl⟩ | ⟨j, rfl, hj, hm⟩
  · intro a l e; cases e
  · intro a l e
    injection e with e1 e2 e3
    exact n ⟨es.length, by rw [e1]⟩
theorem OwnB.of {σ0 σ : St} {v : AV} {es : List AV} (h : OwnL σ0 σ 1 v es) : OwnB σ v es := by
  rcases h with ⟨rfl, rfl⟩ | ⟨j, rfl, hj, hm, hn⟩
  · exact .inl ⟨rfl, rfl⟩
  · exact .inr ⟨j, rfl, hj, hm⟩
theorem OwnB.cells {σ : St} {v : AV} {es : List AV} (h : OwnB σ v es) : v.cells = [v] ∧ cellOK v = true := by
  rcases h with ⟨rfl, rfl⟩ | ⟨j, rfl, hj, hm⟩
  · exact ⟨rfl, rfl⟩
  · exact ⟨rfl, rfl⟩
theorem zkA {v : AV} {i : Id} (h : ∀ a l, v ≠ .rs i a l) : ¬ zbr v i := fun ⟨l, e⟩ => h 0 l e
theorem OwnB.up {σ τ : St} {v : AV} {es : List AV} (h : OwnB σ v es) (k : ∀ i o, zbr v i → σ.m i = some o → τ.m i = some o) : OwnB τ v es := by
  rcases h with ⟨rfl, rfl⟩ | ⟨j, rfl, hj, hm⟩
  · exact .inl ⟨rfl, rfl⟩
  · exact .inr ⟨j, rfl, hj, k j _ ⟨_, rfl⟩ hm⟩
def Ex (ip : Id) (σ τ : St) : Prop := (∀ i o, i ≠ ip → σ.m i = some o → τ.m i = some o) ∧ ∀ s, σ.nx s ≤ τ.nx s
theorem Ex.refl (ip : Id) (σ : St) : Ex ip σ σ := ⟨fun _ _ _ h => h, fun _ => Nat.le_refl _⟩
theorem Ex.trans {ip : Id} {ρ σ τ : St} (h : Ex ip ρ σ) (k : Ex ip σ τ) : Ex ip ρ τ := ⟨fun i o n e => k.1 i o n (h.1 i o n e), fun s => Nat.le_trans (h.2 s) (k.2 s)⟩
theorem Ex.set {ip : Id} {σ τ : St} (h : Ex ip σ τ) (o : Ob) : Ex ip σ (τ.set ip o) := ⟨fun i u n e => by simp [St.set, n, h.1 i u n e], fun s => h.2 s⟩
theorem Ex.new {ip : Id} {σ τ : St} (h : Ex ip σ τ) (s n : Nat) (o : Ob) : Ex ip σ (τ.new s n o) := ⟨fun i u n e => zaR _ _ (h.1 i u n e), fun s => Nat.le_trans (h.2 s) (St.new_le _ _ _ _ _)⟩
theorem Ex.ext {ip : Id} {σ τ : St} (h : Ext σ τ) : Ex ip σ τ := ⟨fun i o _ e => h.1 i o e, h.2⟩
theorem Ex.setF {ip j : Id} {σ τ : St} (h : Ex ip σ τ) (n : σ.m j = none) (o : Ob) : Ex ip σ (τ.set j o) := ⟨fun i u hn e => by
    have q : i ≠ j := fun q => by rw [q, n] at e; cases e
    simp [St.set, q, h.1 i u hn e], fun s => h.2 s⟩
theorem Ex.del {ip j : Id} {σ τ : St} (h : Ex ip σ τ) (n : σ.m j = none) : Ex ip σ (τ.del j) := ⟨fun i u hn e => by
    have q : i ≠ j := fun q => by rw [q, n] at e; cases e
    rw [zag q]; exact h.1 i u hn e, fun s => h.2 s⟩
def Kp (ip : Id) (v v' : AV) (σ τ : St) : Prop := (∀ i o, i ≠ ip → ¬ zbr v i → σ.m i = some o → τ.m i = some o ∧ ¬ zbr v' i) ∧ ∀ s, σ.nx s ≤ τ.nx s
theorem Kp.ex {ip : Id} {v v' : AV} {ρ σ τ : St} (h : Kp ip v v' ρ σ) (k : Ex ip σ τ) : Kp ip v v' ρ τ := ⟨fun i o n na e => ⟨k.1 i o n (h.1 i o n na e).1, (h.1 i o n na e).2⟩, fun s => Nat.le_trans (h.2 s) (k.2 s)⟩
theorem OwnB.ex {ip : Id} {σ τ : St} {v : AV} {es : List AV} (h : OwnB σ v es) (n : ¬ zbr v ip) (k : Ex ip σ τ) : OwnB τ v es := h.up fun i o hi e => k.1 i o (fun e => n (e ▸ hi)) e
end Go.Proofs.YtanimmdlgmkmkaaGreat.Av
namespace Go.Proofs.YtanimmdlgmkmkaaGreat.Av
open Go
set_option linter.unusedSimpArgs false
set_option linter.unusedVariables false
set_option maxRecDepth 100000
set_option maxHeartbeats 4000000
set_option pp.maxSteps 600
theorem zlo (N : Nw) (F : Fl) (hN : NwOK N) {ip : Id} (hsz : ip.sz = 34) {c : Nat → AV} {σ : St} (m : σ.m ip = some (.buf [.agg (zbL c)])) {d : Int} (c16 : c 16 = .raw (.int .i64 d)) {r : Rg} {rs : List Rg} (c15 : c 15 = zN (r :: rs) false)
    {v : AV} {p : List Int} (c17 : c 17 = v) (hB : OwnB σ v (p.map iAV)) (hp : p.length < 2 ^ 43) {K : AV → St → Prop}
    (hK1 : d ∈ p → ∀ τ v', τ.m ip = some (.buf [.agg (zbL (upc (upc c 17 v') 18 (.raw (.int .i64 4))))]) → OwnB τ v' ((p ++ [d]).map iAV) → Kp ip v v' σ τ → K (.raw (.bool false)) τ)
    (hK2 : d ∉ p → (zZ N d r.lo).1 = 4 → ∀ τ v', τ.m ip = some (.buf [.agg (zbL (upc (upc (upc c 17 v') 18 (.raw (.int .i64 4))) 16 (.raw (.int .i64 (zbt N (zZ N d r.lo).2)))))]) → OwnB τ v' ((p ++ [d]).map iAV) → Kp ip v v' σ τ → K (.raw (.bool true)) τ)
    (hK3 : d ∉ p → (zZ N d r.lo).1 ≠ 4 → ∀ τ v', τ.m ip = some (.buf [.agg (zbL (upc (upc (upc (upc c 17 v') 18 (.raw (.int .i64 (zZ N d r.lo).1))) 19 (.raw (.int .i64 (zZ N d r.lo).2.dev))) 20 (.raw (.int .i64 (zZ N d r.lo).2.port))))]) → OwnB τ v' ((p ++ [d]).map iAV) → Kp ip v v' σ τ → K (.raw (.bool false)) τ) :
    ACalls Tryz.prog 188 [.rp ip 0 0, z7 N F, .rp ip 0 17] σ K := by
  obtain ⟨σ0, hO, hE0, kp1, kp2, kp3, kp4⟩ := hB.toL
  have hcon : PCalls Tryz.prog 102 [.sl 1 (p.map iAV) false, .raw (.int .i64 d)] (.raw (.bool (p.any fun x => decide (d = x)))) := zdc p false d (by omega)
  obtain ⟨b0, hb0⟩ : ∃ b, (p.any fun x => decide (d = x)) = b := ⟨_, rfl⟩
  have hb : (d ∈ p) ↔ b0 = true := by
    rw [← hb0, List.any_eq_true]
    refine ⟨fun h => ⟨d, h, by simp⟩, ?_⟩
    rintro ⟨x, hx, e⟩
    simp only [decide_eq_true_eq] at e; exact e ▸ hx
  rw [hb0] at hcon
  have hstep := zi0 N F d r.lo hN.links hN.rules
  have hnext := zgl N.t F (zZ N d r.lo).2 hN.links
  simp only [zbL] at m
  refine zcr Tryz.func188 rfl (N := 76) rfl rfl (by simp) ?_
  have f4 : σ.m ⟨4, σ.nx 4, 3⟩ = none := zf _ _ _
  have n4 : ip ≠ ⟨4, σ.nx 4, 3⟩ := fun e => by rw [e, f4] at m; cases m
  refine zg ?_
  refine zh ?_
  simp [-cellOK, zr]
  generalize hA0 : put 76 _ _ _ = A0
  have d0 : A0 0 = .rp ip 0 0 := by rw [← hA0]; simp
  have d2 : A0 2 = .rp ip 0 17 := by rw [← hA0]; simp
  have d4 : A0 4 = .rp ⟨4, σ.nx 4, 3⟩ 0 0 := by rw [← hA0]; simp
  clear hA0
  refine zY ⟨4, σ.nx 4, 3⟩ ?_
  generalize hAA : (fun t => zD _ _ _) = A
  have a0 : A 0 = .rp ip 0 0 := by rw [← hAA]; show zD _ _ (A0 0) = _; rw [d0]; exact zaL n4
  have a2 : A 2 = .rp ip 0 17 := by rw [← hAA]; show zD _ _ (A0 2) = _; rw [d2]; exact zaL n4
  have a4 : A 4 = .pp (z7 N F).cells 0 := by rw [← hAA]; show zD _ _ (A0 4) = _; rw [d4, za3 (es := [z7 N F]) (e := z7 N F) (by simp [St.del]) (by simp [St.new]) rfl]
  generalize hτ : St.del _ _ = τ
  have hm : ∀ i, τ.m i = σ.m i := by
    intro i
    rw [← hτ]
    by_cases e : i = ⟨4, σ.nx 4, 3⟩
    · subst e; rw [f4]; simp [St.del]
    · rw [zag e, zdB e]
  have hnx : ∀ s, σ.nx s ≤ τ.nx s := fun s => by rw [← hτ]; show σ.nx s ≤ (σ.new 4 3 (.buf [z7 N F])).nx s; exact St.new_le _ _ _ _ _
  have hEτ : Ext σ τ := ⟨fun i o h => by rw [hm]; exact h, hnx⟩
  clear hτ hAA d0 d2 d4
  have m : τ.m ip = _ := (hm ip).trans m
  have hO := hO.ext hEτ
  have hE := hE0.trans hEτ
  have nv : ¬ zbr v ip := fun ⟨l, e⟩ => hO.ne_sz (i := ip) (by rw [hsz]; decide) _ _ e
  have f0 := kp3
  refine zg ?_
  refine zcd zd7 zem (by decide +kernel) ?_
  simp [-cellOK, a0, a2, m, c16, c17]
  refine .inl ⟨_, zja hcon rfl hO.toP, ?_⟩
  (try ((first | with_reducible refine zk ?_ | with_reducible refine zm ?_ | with_reducible refine zo ?_); simp [-cellOK, a0, a2, a4, m, c16, c17, -zO])); repeat' (first | ((first | refine zd ?_ | refine zh ?_ | refine dN (by decide +kernel) ?_ | refine dC (by decide +kernel) ?_ | (refine za ?_ ?_ <;> (intro hg; simp only [hg])) | fail) <;> simp [-cellOK, a0, a2, a4, m, c16, c17, -zO]) | refine zg ?_ | refine zc ?_ | (refine zs ?_; simp only [zt]; try simp) | (refine zl (by simp) ?_; simp) | (refine zx (by simp) (by simp [noIds]) (by repeat (first | assumption | exact Ext.refl _ | refine zu ?_ | refine Ext.setF ?_ (by first | assumption | (simp [ze, St.set, zf]; done) | exact zp (by assumption)))) ?_; simp [-cellOK, a0, a2, a4, m, c16, c17, -zO, zL]) | (refine zb (fun hc => ?_) (fun hc => ?_) <;> try simp at hc) | fail)
  refine zaV zel (σ0 := σ0) (hO.ext (Ext.new _ _ _ _)) (hE.trans (Ext.new _ _ _ _)) (ys := [iAV d]) (by simp [zz, ze, iAV]) (.inr rfl) (by simp [iAV]) (by simp; omega) fun v' τ1 hO1 hE1 kp hx1 => ?_
  have m1 := (kp ip _ (zaR _ _ m) (hB.ne nv)).1
  have nv' := zkA (kp ip _ (zaR _ _ m) (hB.ne nv)).2
  obtain ⟨vc, vo⟩ := (OwnB.of hO1).cells
  have hKp : Kp ip v v' σ τ1 := ⟨fun i o n na e => by
    have := kp i o (zaR _ _ (by rw [hm]; exact e)) (hB.ne na)
    exact ⟨this.1, zkA this.2⟩, fun s => Nat.le_trans (Nat.le_trans (hnx s) (St.new_le _ _ _ _ _)) (hx1 s)⟩
  have hB1 := OwnB.of hO1
  have hpd : (p ++ [d]).map iAV = p.map iAV ++ [iAV d] := by simp
  rw [← hpd] at hB1
  cases b0 with
  | true =>
    (try ((first | with_reducible refine zk ?_ | with_reducible refine zm ?_ | with_reducible refine zo ?_); simp [-cellOK, a0, a2, a4, m1, c16, c17, vc, vo])); repeat' (first | ((first | refine zd ?_ | refine zh ?_ | refine dN (by decide +kernel) ?_ | refine dC (by decide +kernel) ?_ | (refine za ?_ ?_ <;> (intro hg; simp only [hg])) | fail) <;> simp [-cellOK, a0, a2, a4, m1, c16, c17, vc, vo]) | refine zg ?_ | refine zc ?_ | (refine zs ?_; simp only [zt]; try simp) | (refine zl (by simp) ?_; simp) | (refine zx (by simp) (by simp [noIds]) (by repeat (first | assumption | exact Ext.refl _ | refine zu ?_ | refine Ext.setF ?_ (by first | assumption | (simp [ze, St.set, zf]; done) | exact zp (by assumption)))) ?_; simp [-cellOK, a0, a2, a4, m1, c16, c17, vc, vo, zL]) | (refine zb (fun hc => ?_) (fun hc => ?_) <;> try simp at hc) | fail)
    refine zaF (.inr rfl) (by simp) (hK1 (hb.2 rfl) _ v' (by simp [zA, m1, zbL, upc, c16]) (hB1.ex nv' ?_) (hKp.ex ?_))
    all_goals exact ((Ex.refl ip τ1).set _).set _
  | false =>
    have h2 : ∀ a b, (ip = ⟨a, b, 2⟩) = False := fun a b => eq_false fun e => by rw [e] at hsz; cases hsz
    by_cases hs4 : (zZ N d r.lo).1 = 4
    · have hs4' := eq_true hs4
      (try ((first | with_reducible refine zk ?_ | with_reducible refine zm ?_ | with_reducible refine zo ?_); simp [-cellOK, a0, a2, a4, m1, c16, c17, vc, vo, c15, zN, zr, zC, zA, zz, ze, zS, hs4', h2])); repeat' (first | ((first | refine zd ?_ | refine zh ?_ | refine dN (by decide +kernel) ?_ | refine dC (by decide +kernel) ?_ | refine uP (hstep) ?_ | refine .inl ⟨_, .inl (hstep), ?_⟩ | refine uP (hnext) ?_ | refine .inl ⟨_, .inl (hnext), ?_⟩ | (refine za ?_ ?_ <;> (intro hg; simp only [hg])) | fail) <;> simp [-cellOK, a0, a2, a4, m1, c16, c17, vc, vo, c15, zN, zr, zC, zA, zz, ze, zS, hs4', h2]) | refine zg ?_ | refine zc ?_ | (refine zs ?_; simp only [zt]; try simp) | (refine zl (by simp) ?_; simp) | (refine zx (by simp) (by simp [noIds]) (by repeat (first | assumption | exact Ext.refl _ | refine zu ?_ | refine Ext.setF ?_ (by first | assumption | (simp [ze, St.set, zf]; done) | exact zp (by assumption)))) ?_; simp [-cellOK, a0, a2, a4, m1, c16, c17, vc, vo, c15, zN, zr, zC, zA, zz, ze, zS, hs4', h2, zL]) | (refine zb (fun hc => ?_) (fun hc => ?_) <;> try simp at hc) | fail)
      refine zaF (.inr rfl) (by simp) (hK2 (fun h => by cases hb.1 h) hs4 _ v' (by simp [zA, zz, ze, h2, m1, zbL, upc, c15, zN, zbt]) (hB1.ex nv' ?_) (hKp.ex ?_))
      all_goals repeat (first | exact Ex.refl _ _ | refine Ex.set ?_ _ | refine Ex.new ?_ _ _ _ | refine Ex.setF ?_ (by first | exact zf _ _ _ | (simp [zA, zz, ze, zf]; done)) _)
    · have hs4' := eq_false hs4
      (try ((first | with_reducible refine zk ?_ | with_reducible refine zm ?_ | with_reducible refine zo ?_); simp [-cellOK, a0, a2, a4, m1, c16, c17, vc, vo, c15, zN, zr, zC, zA, zz, ze, zS, hs4', h2])); repeat' (first | ((first | refine zd ?_ | refine zh ?_ | refine dN (by decide +kernel) ?_ | refine dC (by decide +kernel) ?_ | refine uP (hstep) ?_ | refine .inl ⟨_, .inl (hstep), ?_⟩ | (refine za ?_ ?_ <;> (intro hg; simp only [hg])) | fail) <;> simp [-cellOK, a0, a2, a4, m1, c16, c17, vc, vo, c15, zN, zr, zC, zA, zz, ze, zS, hs4', h2]) | refine zg ?_ | refine zc ?_ | (refine zs ?_; simp only [zt]; try simp) | (refine zb (fun hc => ?_) (fun hc => ?_) <;> try simp at hc) | fail)
      generalize hA2 : put 76 _ _ _ = A2
      have d2 : A2 2 = .rp ip 0 17 := by rw [← hA2]; simp [a2]
      have d8 : A2 8 = .raw (.int .i64 (zZ N d r.lo).1) := by rw [← hA2]; simp
      have d9 : A2 9 = .rp ⟨9, τ1.nx 9, 2⟩ 0 0 := by rw [← hA2]; simp
      clear hA2
      generalize hT2 : St.set _ _ _ = τ2
      have f9 : τ1.m ⟨9, τ1.nx 9, 2⟩ = none := zf _ _ _
      have q9 : ip ≠ ⟨9, τ1.nx 9, 2⟩ := fun e => by rw [h2] at e; exact e
      have m9 : τ2.m ⟨9, τ1.nx 9, 2⟩ = some (.buf [zS (zZ N d r.lo).2]) := by rw [← hT2]; simp [zA, zz, m1, h2, zS]
      have m2 : τ2.m ip = some (.buf [.agg (zbL (upc (upc c 17 v') 18 (.raw (.int .i64 4))))]) := by rw [← hT2]; simp [zA, zz, h2, m1, zbL, upc, c16, c15, zN]
      have hX2 : Ex ip τ1 τ2 := by
        rw [← hT2]
        repeat (first | exact Ex.refl _ _ | refine Ex.set ?_ _ | refine Ex.new ?_ _ _ _ | refine Ex.setF ?_ f9 _)
      clear hT2
      refine zY ⟨9, τ1.nx 9, 2⟩ ?_
      generalize hA3 : (fun t => zD _ _ _) = A3
      have g2 : A3 2 = .rp ip 0 17 := by rw [← hA3]; show zD _ _ (A2 2) = _; rw [d2]; exact zaL q9
      have g8 : A3 8 = .raw (.int .i64 (zZ N d r.lo).1) := by rw [← hA3]; show zD _ _ (A2 8) = _; rw [d8]; rfl
      have g9 : A3 9 = .pp (zS (zZ N d r.lo).2).cells 0 := by rw [← hA3]; show zD _ _ (A2 9) = _; rw [d9, za3 (by simp [St.del]) m9 rfl]
      clear hA3
      have m3 : (τ2.del ⟨9, τ1.nx 9, 2⟩).m ip = _ := (zag q9).trans m2
      have hX3 := hX2.del f9
      generalize τ2.del ⟨9, τ1.nx 9, 2⟩ = τ3 at m3 hX3 ⊢
      simp only [zbL] at m3
      refine zcd (lsO [59]) zem (by decide +kernel) ?_
      simp [-cellOK, g2, g8, g9, m3, zS]
      (try ((first | with_reducible refine zk ?_ | with_reducible refine zm ?_ | with_reducible refine zo ?_); simp [-cellOK, g2, g8, g9, m3, zS, zA])); repeat' (first | ((first | refine zd ?_ | refine zh ?_ | refine dN (by decide +kernel) ?_ | refine dC (by decide +kernel) ?_ | (refine za ?_ ?_ <;> (intro hg; simp only [hg])) | fail) <;> simp [-cellOK, g2, g8, g9, m3, zS, zA]) | refine zg ?_ | refine zc ?_ | (refine zs ?_; simp only [zt]; try simp) | (refine zb (fun hc => ?_) (fun hc => ?_) <;> try simp at hc) | fail)
      refine zaF (.inr rfl) (by simp) (hK3 (fun h => by cases hb.1 h) hs4 _ v' (by simp [zA, m3, zbL, upc, c15, zN]) (hB1.ex nv' ?_) (hKp.ex ?_))
      all_goals exact hX3.trans (((Ex.refl _ _).set _).set _)
end Go.Proofs.YtanimmdlgmkmkaaGreat.Av
namespace Go.Proofs.YtanimmdlgmkmkaaGreat.Av
open Go
set_option linter.unusedSimpArgs false
set_option linter.unusedVariables false
set_option maxRecDepth 100000
set_option maxHeartbeats 4000000
set_option pp.maxSteps 600
theorem zlp (N : Nw) (F : Fl) (hN : NwOK N) {ip : Id} (hsz : ip.sz = 34) {c : Nat → AV} {σ : St} (m : σ.m ip = some (.buf [.agg (zbL c)])) {d : Int} (c16 : c 16 = .raw (.int .i64 d)) {r : Rg} {rs : List Rg} (c15 : c 15 = zN (r :: rs) false)
    {v : AV} {p : List Int} (c17 : c 21 = v) (hB : OwnB σ v (p.map iAV)) (hp : p.length < 2 ^ 43) {K : AV → St → Prop}
    (hK1 : d ∈ p → ∀ τ v', τ.m ip = some (.buf [.agg (zbL (upc (upc c 21 v') 22 (.raw (.int .i64 4))))]) → OwnB τ v' ((p ++ [d]).map iAV) → Kp ip v v' σ τ → K (.raw (.bool false)) τ)
    (hK2 : d ∉ p → (zZ N d r.lo).1 = 4 → ∀ τ v', τ.m ip = some (.buf [.agg (zbL (upc (upc (upc c 21 v') 22 (.raw (.int .i64 4))) 16 (.raw (.int .i64 (zbt N (zZ N d r.lo).2)))))]) → OwnB τ v' ((p ++ [d]).map iAV) → Kp ip v v' σ τ → K (.raw (.bool true)) τ)
    (hK3 : d ∉ p → (zZ N d r.lo).1 ≠ 4 → ∀ τ v', τ.m ip = some (.buf [.agg (zbL (upc (upc (upc (upc c 21 v') 22 (.raw (.int .i64 (zZ N d r.lo).1))) 23 (.raw (.int .i64 (zZ N d r.lo).2.dev))) 24 (.raw (.int .i64 (zZ N d r.lo).2.port))))]) → OwnB τ v' ((p ++ [d]).map iAV) → Kp ip v v' σ τ → K (.raw (.bool false)) τ) :
    ACalls Tryz.prog 188 [.rp ip 0 0, z7 N F, .rp ip 0 21] σ K := by
  obtain ⟨σ0, hO, hE0, kp1, kp2, kp3, kp4⟩ := hB.toL
  have hcon : PCalls Tryz.prog 102 [.sl 1 (p.map iAV) false, .raw (.int .i64 d)] (.raw (.bool (p.any fun x => decide (d = x)))) := zdc p false d (by omega)
  obtain ⟨b0, hb0⟩ : ∃ b, (p.any fun x => decide (d = x)) = b := ⟨_, rfl⟩
  have hb : (d ∈ p) ↔ b0 = true := by
    rw [← hb0, List.any_eq_true]
    refine ⟨fun h => ⟨d, h, by simp⟩, ?_⟩
    rintro ⟨x, hx, e⟩
    simp only [decide_eq_true_eq] at e; exact e ▸ hx
  rw [hb0] at hcon
  have hstep := zi0 N F d r.lo hN.links hN.rules
  have hnext := zgl N.t F (zZ N d r.lo).2 hN.links
  simp only [zbL] at m
  refine zcr Tryz.func188 rfl (N := 76) rfl rfl (by simp) ?_
  have f4 : σ.m ⟨4, σ.nx 4, 3⟩ = none := zf _ _ _
  have n4 : ip ≠ ⟨4, σ.nx 4, 3⟩ := fun e => by rw [e, f4] at m; cases m
  refine zg ?_
  refine zh ?_
  simp [-cellOK, zr]
  generalize hA0 : put 76 _ _ _ = A0
  have d0 : A0 0 = .rp ip 0 0 := by rw [← hA0]; simp
  have d2 : A0 2 = .rp ip 0 21 := by rw [← hA0]; simp
  have d4 : A0 4 = .rp ⟨4, σ.nx 4, 3⟩ 0 0 := by rw [← hA0]; simp
  clear hA0
  refine zY ⟨4, σ.nx 4, 3⟩ ?_
  generalize hAA : (fun t => zD _ _ _) = A
  have a0 : A 0 = .rp ip 0 0 := by rw [← hAA]; show zD _ _ (A0 0) = _; rw [d0]; exact zaL n4
  have a2 : A 2 = .rp ip 0 21 := by rw [← hAA]; show zD _ _ (A0 2) = _; rw [d2]; exact zaL n4
  have a4 : A 4 = .pp (z7 N F).cells 0 := by rw [← hAA]; show zD _ _ (A0 4) = _; rw [d4, za3 (es := [z7 N F]) (e := z7 N F) (by simp [St.del]) (by simp [St.new]) rfl]
  generalize hτ : St.del _ _ = τ
  have hm : ∀ i, τ.m i = σ.m i := by
    intro i
    rw [← hτ]
    by_cases e : i = ⟨4, σ.nx 4, 3⟩
    · subst e; rw [f4]; simp [St.del]
    · rw [zag e, zdB e]
  have hnx : ∀ s, σ.nx s ≤ τ.nx s := fun s => by rw [← hτ]; show σ.nx s ≤ (σ.new 4 3 (.buf [z7 N F])).nx s; exact St.new_le _ _ _ _ _
  have hEτ : Ext σ τ := ⟨fun i o h => by rw [hm]; exact h, hnx⟩
  clear hτ hAA d0 d2 d4
  have m : τ.m ip = _ := (hm ip).trans m
  have hO := hO.ext hEτ
  have hE := hE0.trans hEτ
  have nv : ¬ zbr v ip := fun ⟨l, e⟩ => hO.ne_sz (i := ip) (by rw [hsz]; decide) _ _ e
  have f0 := kp3
  refine zg ?_
  refine zcd zd7 zem (by decide +kernel) ?_
  simp [-cellOK, a0, a2, m, c16, c17]
  refine .inl ⟨_, zja hcon rfl hO.toP, ?_⟩
  (try ((first | with_reducible refine zk ?_ | with_reducible refine zm ?_ | with_reducible refine zo ?_); simp [-cellOK, a0, a2, a4, m, c16, c17, -zO])); repeat' (first | ((first | refine zd ?_ | refine zh ?_ | refine dN (by decide +kernel) ?_ | refine dC (by decide +kernel) ?_ | (refine za ?_ ?_ <;> (intro hg; simp only [hg])) | fail) <;> simp [-cellOK, a0, a2, a4, m, c16, c17, -zO]) | refine zg ?_ | refine zc ?_ | (refine zs ?_; simp only [zt]; try simp) | (refine zl (by simp) ?_; simp) | (refine zx (by simp) (by simp [noIds]) (by repeat (first | assumption | exact Ext.refl _ | refine zu ?_ | refine Ext.setF ?_ (by first | assumption | (simp [ze, St.set, zf]; done) | exact zp (by assumption)))) ?_; simp [-cellOK, a0, a2, a4, m, c16, c17, -zO, zL]) | (refine zb (fun hc => ?_) (fun hc => ?_) <;> try simp at hc) | fail)
  refine zaV zel (σ0 := σ0) (hO.ext (Ext.new _ _ _ _)) (hE.trans (Ext.new _ _ _ _)) (ys := [iAV d]) (by simp [zz, ze, iAV]) (.inr rfl) (by simp [iAV]) (by simp; omega) fun v' τ1 hO1 hE1 kp hx1 => ?_
  have m1 := (kp ip _ (zaR _ _ m) (hB.ne nv)).1
  have nv' := zkA (kp ip _ (zaR _ _ m) (hB.ne nv)).2
  obtain ⟨vc, vo⟩ := (OwnB.of hO1).cells
  have hKp : Kp ip v v' σ τ1 := ⟨fun i o n na e => by
    have := kp i o (zaR _ _ (by rw [hm]; exact e)) (hB.ne na)
    exact ⟨this.1, zkA this.2⟩, fun s => Nat.le_trans (Nat.le_trans (hnx s) (St.new_le _ _ _ _ _)) (hx1 s)⟩
  have hB1 := OwnB.of hO1
  have hpd : (p ++ [d]).map iAV = p.map iAV ++ [iAV d] := by simp
  rw [← hpd] at hB1
  cases b0 with
  | true =>
    (try ((first | with_reducible refine zk ?_ | with_reducible refine zm ?_ | with_reducible refine zo ?_); simp [-cellOK, a0, a2, a4, m1, c16, c17, vc, vo])); repeat' (first | ((first | refine zd ?_ | refine zh ?_ | refine dN (by decide +kernel) ?_ | refine dC (by decide +kernel) ?_ | (refine za ?_ ?_ <;> (intro hg; simp only [hg])) | fail) <;> simp [-cellOK, a0, a2, a4, m1, c16, c17, vc, vo]) | refine zg ?_ | refine zc ?_ | (refine zs ?_; simp only [zt]; try simp) | (refine zl (by simp) ?_; simp) | (refine zx (by simp) (by simp [noIds]) (by repeat (first | assumption | exact Ext.refl _ | refine zu ?_ | refine Ext.setF ?_ (by first | assumption | (simp [ze, St.set, zf]; done) | exact zp (by assumption)))) ?_; simp [-cellOK, a0, a2, a4, m1, c16, c17, vc, vo, zL]) | (refine zb (fun hc => ?_) (fun hc => ?_) <;> try simp at hc) | fail)
    refine zaF (.inr rfl) (by simp) (hK1 (hb.2 rfl) _ v' (by simp [zA, m1, zbL, upc, c16]) (hB1.ex nv' ?_) (hKp.ex ?_))
    all_goals exact ((Ex.refl ip τ1).set _).set _
  | false =>
    have h2 : ∀ a b, (ip = ⟨a, b, 2⟩) = False := fun a b => eq_false fun e => by rw [e] at hsz; cases hsz
    by_cases hs4 : (zZ N d r.lo).1 = 4
    · have hs4' := eq_true hs4
      (try ((first | with_reducible refine zk ?_ | with_reducible refine zm ?_ | with_reducible refine zo ?_); simp [-cellOK, a0, a2, a4, m1, c16, c17, vc, vo, c15, zN, zr, zC, zA, zz, ze, zS, hs4', h2])); repeat' (first | ((first | refine zd ?_ | refine zh ?_ | refine dN (by decide +kernel) ?_ | refine dC (by decide +kernel) ?_ | refine uP (hstep) ?_ | refine .inl ⟨_, .inl (hstep), ?_⟩ | refine uP (hnext) ?_ | refine .inl ⟨_, .inl (hnext), ?_⟩ | (refine za ?_ ?_ <;> (intro hg; simp only [hg])) | fail) <;> simp [-cellOK, a0, a2, a4, m1, c16, c17, vc, vo, c15, zN, zr, zC, zA, zz, ze, zS, hs4', h2]) | refine zg ?_ | refine zc ?_ | (refine zs ?_; simp only [zt]; try simp) | (refine zl (by simp) ?_; simp) | (refine zx (by simp) (by simp [noIds]) (by repeat (first | assumption | exact Ext.refl _ | refine zu ?_ | refine Ext.setF ?_ (by first | assumption | (simp [ze, St.set, zf]; done) | exact zp (by assumption)))) ?_; simp [-cellOK, a0, a2, a4, m1, c16, c17, vc, vo, c15, zN, zr, zC, zA, zz, ze, zS, hs4', h2, zL]) | (refine zb (fun hc => ?_) (fun hc => ?_) <;> try simp at hc) | fail)
      refine zaF (.inr rfl) (by simp) (hK2 (fun h => by cases hb.1 h) hs4 _ v' (by simp [zA, zz, ze, h2, m1, zbL, upc, c15, zN, zbt]) (hB1.ex nv' ?_) (hKp.ex ?_))
      all_goals repeat (first | exact Ex.refl _ _ | refine Ex.set ?_ _ | refine Ex.new ?_ _ _ _ | refine Ex.setF ?_ (by first | exact zf _ _ _ | (simp [zA, zz, ze, zf]; done)) _)
    · have hs4' := eq_false hs4
      (try ((first | with_reducible refine zk ?_ | with_reducible refine zm ?_ | with_reducible refine zo ?_); simp [-cellOK, a0, a2, a4, m1, c16, c17, vc, vo, c15, zN, zr, zC, zA, zz, ze, zS, hs4', h2])); repeat' (first | ((first | refine zd ?_ | refine zh ?_ | refine dN (by decide +kernel) ?_ | refine dC (by decide +kernel) ?_ | refine uP (hstep) ?_ | refine .inl ⟨_, .inl (hstep), ?_⟩ | (refine za ?_ ?_ <;> (intro hg; simp only [hg])) | fail) <;> simp [-cellOK, a0, a2, a4, m1, c16, c17, vc, vo, c15, zN, zr, zC, zA, zz, ze, zS, hs4', h2]) | refine zg ?_ | refine zc ?_ | (refine zs ?_; simp only [zt]; try simp) | (refine zb (fun hc => ?_) (fun hc => ?_) <;> try simp at hc) | fail)
      generalize hA2 : put 76 _ _ _ = A2
      have d2 : A2 2 = .rp ip 0 21 := by rw [← hA2]; simp [a2]
      have d8 : A2 8 = .raw (.int .i64 (zZ N d r.lo).1) := by rw [← hA2]; simp
      have d9 : A2 9 = .rp ⟨9, τ1.nx 9, 2⟩ 0 0 := by rw [← hA2]; simp
      clear hA2
      generalize hT2 : St.set _ _ _ = τ2
      have f9 : τ1.m ⟨9, τ1.nx 9, 2⟩ = none := zf _ _ _
      have q9 : ip ≠ ⟨9, τ1.nx 9, 2⟩ := fun e => by rw [h2] at e; exact e
      have m9 : τ2.m ⟨9, τ1.nx 9, 2⟩ = some (.buf [zS (zZ N d r.lo).2]) := by rw [← hT2]; simp [zA, zz, m1, h2, zS]
      have m2 : τ2.m ip = some (.buf [.agg (zbL (upc (upc c 21 v') 22 (.raw (.int .i64 4))))]) := by rw [← hT2]; simp [zA, zz, h2, m1, zbL, upc, c16, c15, zN]
      have hX2 : Ex ip τ1 τ2 := by
        rw [← hT2]
        repeat (first | exact Ex.refl _ _ | refine Ex.set ?_ _ | refine Ex.new ?_ _ _ _ | refine Ex.setF ?_ f9 _)
      clear hT2
      refine zY ⟨9, τ1.nx 9, 2⟩ ?_
      generalize hA3 : (fun t => zD _ _ _) = A3
      have g2 : A3 2 = .rp ip 0 21 := by rw [← hA3]; show zD _ _ (A2 2) = _; rw [d2]; exact zaL q9
      have g8 : A3 8 = .raw (.int .i64 (zZ N d r.lo).1) := by rw [← hA3]; show zD _ _ (A2 8) = _; rw [d8]; rfl
      have g9 : A3 9 = .pp (zS (zZ N d r.lo).2).cells 0 := by rw [← hA3]; show zD _ _ (A2 9) = _; rw [d9, za3 (by simp [St.del]) m9 rfl]
      clear hA3
      have m3 : (τ2.del ⟨9, τ1.nx 9, 2⟩).m ip = _ := (zag q9).trans m2
      have hX3 := hX2.del f9
      generalize τ2.del ⟨9, τ1.nx 9, 2⟩ = τ3 at m3 hX3 ⊢
      simp only [zbL] at m3
      refine zcd (lsO [59]) zem (by decide +kernel) ?_
      simp [-cellOK, g2, g8, g9, m3, zS]
      (try ((first | with_reducible refine zk ?_ | with_reducible refine zm ?_ | with_reducible refine zo ?_); simp [-cellOK, g2, g8, g9, m3, zS, zA])); repeat' (first | ((first | refine zd ?_ | refine zh ?_ | refine dN (by decide +kernel) ?_ | refine dC (by decide +kernel) ?_ | (refine za ?_ ?_ <;> (intro hg; simp only [hg])) | fail) <;> simp [-cellOK, g2, g8, g9, m3, zS, zA]) | refine zg ?_ | refine zc ?_ | (refine zs ?_; simp only [zt]; try simp) | (refine zb (fun hc => ?_) (fun hc => ?_) <;> try simp at hc) | fail)
      refine zaF (.inr rfl) (by simp) (hK3 (fun h => by cases hb.1 h) hs4 _ v' (by simp [zA, m3, zbL, upc, c15, zN]) (hB1.ex nv' ?_) (hKp.ex ?_))
      all_goals exact hX3.trans (((Ex.refl _ _).set _).set _)
end Go.Proofs.YtanimmdlgmkmkaaGreat.Av
namespace Go.Proofs.YtanimmdlgmkmkaaGreat.Av
open Go
set_option linter.unusedSimpArgs false
set_option linter.unusedVariables false
set_option maxRecDepth 100000
set_option maxHeartbeats 4000000
set_option pp.maxSteps 600
structure PB where
  N : Nw
  M : Nw
  F : Fl
  G : Fl
  q : Qy
  S : List Int
  A : List Rg
  P : List Rg
structure VC where
  h : Bool
  s : Int
  a : Int
  p : AV
  o : Int
  d : Int
  e : Int
def vc0 : VC := ⟨false, 0, 0, .sl 0 [] true, 0, 0, 0⟩
def zca (X : PB) (d : Int) (v : AV) (t : Int × Pt) (w : AV) (u : Int × Pt) (nx : AV) (dn : Bool) (r : VC) : List AV :=
  [zq X.N.t.ports X.F.p, zy X.N.t.links X.F.l, zE X.N.rules X.F.r, zq X.M.t.ports X.G.p, zy X.M.t.links X.G.l, zE X.M.rules X.G.r,
    .raw (.int .i64 X.q.kind), .raw (.int .i64 X.q.a), .raw (.int .i64 X.q.b), .raw (.int .i64 X.q.w), .raw (.int .u32 X.q.r.lo), .raw (.int .u32 X.q.r.hi), .raw (.string X.q.other),
    zq X.S false, zN X.A false, zN X.P false, .raw (.int .i64 d), v, .raw (.int .i64 t.1), .raw (.int .i64 t.2.dev), .raw (.int .i64 t.2.port),
    w, .raw (.int .i64 u.1), .raw (.int .i64 u.2.dev), .raw (.int .i64 u.2.port), nx, .raw (.bool dn), .raw (.bool r.h), .raw (.int .i64 r.s), .raw (.int .u32 r.a), r.p, .raw (.int .i64 r.o), .raw (.int .i64 r.d), .raw (.int .i64 r.e)]
def za5 (X : PB) (d : Int) (v : AV) (t : Int × Pt) (w : AV) (u : Int × Pt) (nx : AV) (dn : Bool) (r : VC) : Ob := .buf [.agg (zca X d v t w u nx dn r)]
def zcQ (ip : Id) : AV := .fn (.func 137) [.rp ip 0 0] []
def zdv (ip : Id) : AV := .fn (.func 189) [.rp ip 0 0] []
def zaJ : AV := .sl 0 [] true
def z0 : Int × Pt := (0, ⟨0, 0⟩)
theorem zfx {ip : Id} (hsz : ip.sz = 34) {X : PB} {d : Int} {v : AV} {t : Int × Pt} {w : AV} {u : Int × Pt} {nx : AV} {dn : Bool} {r : VC} {σ : St} (m : σ.m ip = some (za5 X d v t w u nx dn r))
    {s : Int} {ss : List Int} (hS : X.S = s :: ss) {K : AV → St → Prop}
    (hK : ∀ τ, τ.m ip = some (za5 X s zaJ z0 zaJ z0 (zcQ ip) dn r) → Ex ip σ τ → K (.tup []) τ) : ACalls Tryz.prog 86 [.rp ip 0 0] σ K := by
  simp only [za5, zca, hS] at m hK
  refine zcr Tryz.func86 rfl (N := 24) rfl rfl (by simp) ?_
  (try ((first | with_reducible refine zk ?_ | with_reducible refine zm ?_ | with_reducible refine zo ?_); simp [-cellOK, m, zq, iAV, zA])); repeat' (first | ((first | refine zd ?_ | refine zh ?_ | refine dN (by decide +kernel) ?_ | refine dC (by decide +kernel) ?_ | (refine za ?_ ?_ <;> (intro hg; simp only [hg])) | fail) <;> simp [-cellOK, m, zq, iAV, zA]) | refine zg ?_ | refine zc ?_ | (refine zs ?_; simp only [zt]; try simp) | (refine zb (fun hc => ?_) (fun hc => ?_) <;> try simp at hc) | fail)
  refine zaF (.inl rfl) (x := .tup []) (by simp) (hK _ (by simp [zA, m, zq, iAV, zaJ, z0, zcQ]) ?_)
  repeat (first | exact Ex.refl _ _ | refine Ex.set ?_ _)
end Go.Proofs.YtanimmdlgmkmkaaGreat.Av
namespace Go.Proofs.YtanimmdlgmkmkaaGreat.Av
open Go
set_option linter.unusedSimpArgs false
set_option linter.unusedVariables false
set_option maxRecDepth 100000
set_option maxHeartbeats 4000000
set_option pp.maxSteps 600
theorem OwnB.lent {σ : St} {v : AV} {es : List AV} (h : OwnB σ v es) : ∃ b, ziI σ.m v b ∧ ∀ S x, VRel S b x → VRel S (.sl 1 es false) x := by
  rcases h with ⟨rfl, rfl⟩ | ⟨j, rfl, hj, hm⟩
  · exact ⟨_, .inl rfl, fun S x h => zbD S x h⟩
  · exact ⟨.sl 1 es false, .inr ⟨es, hm, by simp, by simp [hj]⟩, fun S x h => h⟩
theorem zm5 {P : Program} {f : FuncId} {σ : St} {n m q v w r x1 x2 x3 y1 y2 y3 : AV} {es fs : List AV} (h : PCalls P f [n, m, q, .agg [.sl 1 es false, x1, x2, x3], .agg [.sl 1 fs false, y1, y2, y3]] r) (hr : r.plain = true) (hv : OwnB σ v es) (hw : OwnB σ w fs) :
    RCalls P σ.m f [n, m, q, .agg [v, x1, x2, x3], .agg [w, y1, y2, y3]] r := by
  obtain ⟨b, hb, kb⟩ := hv.lent
  obtain ⟨c, hc, kc⟩ := hw.lent
  refine .inr ⟨[n, m, q, .agg [b, x1, x2, x3], .agg [c, y1, y2, y3]], ?_, ⟨h.1, fun σ => ACalls.args (bs := [n, m, q, .agg [.sl 1 es false, x1, x2, x3], .agg [.sl 1 fs false, y1, y2, y3]]) (fun S vs hl => ?_) (h.2 σ)⟩, hr⟩
  · simp only [zcS, ziJ, zdq]
    exact ⟨_, _, rfl, .inl rfl, _, _, rfl, .inl rfl, _, _, rfl, .inl rfl, _, _, rfl, .inr ⟨_, ⟨_, _, rfl, hb, _, _, rfl, .inl rfl, _, _, rfl, .inl rfl, _, _, rfl, .inl rfl, rfl⟩, rfl⟩,
      _, _, rfl, .inr ⟨_, ⟨_, _, rfl, hc, _, _, rfl, .inl rfl, _, _, rfl, .inl rfl, _, _, rfl, .inl rfl, rfl⟩, rfl⟩, rfl⟩
  · simp only [LRel, VRel] at hl ⊢
    obtain ⟨v1, l1, e1, h1, v2, l2, e2, h2, v3, l3, e3, h3, v4, l4, e4, ⟨g4, e5, a1, b1, e6, h6, h7⟩, v8, l8, e8, ⟨g8, e9, a9, b9, e10, h10, h11⟩, e12⟩ := hl
    exact ⟨v1, l1, e1, h1, v2, l2, e2, h2, v3, l3, e3, h3, v4, l4, e4, ⟨g4, e5, a1, b1, e6, kb _ _ h6, h7⟩, v8, l8, e8, ⟨g8, e9, a9, b9, e10, kc _ _ h10, h11⟩, e12⟩
theorem zl9 {ip : Id} (hsz : ip.sz = 34) {X : PB} {d : Int} {v : AV} {t : Tk} {w : AV} {u : Tk} {nx : AV} {σ : St} (m : σ.m ip = some (za5 X d v (t.out, t.last) w (u.out, u.last) nx false vc0))
    (hv : OwnB σ v (t.path.map iAV)) (hw : OwnB σ w (u.path.map iAV)) (ht : t.path.length < 2 ^ 60) (hu : u.path.length < 2 ^ 60) (hnx : nx.cells = [nx] ∧ cellOK nx = true)
    {s : Int} {ss : List Int} (hS : X.S = s :: ss) {r : Rg} {rs : List Rg} (hP : X.P = r :: rs) (hSl : X.S.length < 2 ^ 60) (hPl : X.P.length < 2 ^ 60) {K : AV → St → Prop}
    (hK1 : zaz X.q t u = true → ∀ τ, τ.m ip = some (za5 X d v (t.out, t.last) w (u.out, u.last) nx true ⟨false, s, r.lo, v, t.out, t.last.dev, t.last.port⟩) → Ex ip σ τ → K (.tup []) τ)
    (hK2 : zaz X.q t u = false → rs ≠ [] → ∀ τ, τ.m ip = some (za5 { X with P := rs } s zaJ z0 zaJ z0 (zcQ ip) false vc0) → Ex ip σ τ → K (.tup []) τ)
    (hK3 : zaz X.q t u = false → rs = [] → ss = [] → ∀ τ, τ.m ip = some (za5 { X with P := X.A, S := [] } d v (t.out, t.last) w (u.out, u.last) nx true ⟨true, 0, 0, zaJ, 0, 0, 0⟩) → Ex ip σ τ → K (.tup []) τ)
    (hK4 : zaz X.q t u = false → rs = [] → ∀ s' ss', ss = s' :: ss' → ∀ τ, τ.m ip = some (za5 { X with P := X.A, S := ss } s' zaJ z0 zaJ z0 (zcQ ip) false vc0) → Ex ip σ τ → K (.tup []) τ) :
    ACalls Tryz.prog 190 [.rp ip 0 0] σ K := by
  have hbr := zlj X.N X.M X.F X.G X.q t u false false ht hu
  obtain ⟨vc, vo⟩ := hv.cells
  obtain ⟨nc, no⟩ := hnx
  have n1 : ∀ n : Nat, ((n : Int) + 1 = 0) = False := fun n => eq_false (by omega)
  have ra : (zN X.A false).cells = [zN X.A false] := rfl
  have rb : cellOK (zN X.A false) = true := rfl
  obtain ⟨b, hb⟩ : ∃ b, zaz X.q t u = b := ⟨_, rfl⟩
  rw [hb] at hbr hK1 hK2 hK3 hK4
  have hrc := zm5 hbr rfl hv hw
  simp only [hS, hP, List.length_cons] at hSl hPl
  have m0 := m
  have hS' : zq X.S false = .sl 1 (iAV s :: ss.map iAV) false := by rw [hS]; rfl
  have hP' : zN X.P false = .sl 2 (zat r :: rs.map zat) false := by rw [hP]; rfl
  simp only [za5, zca] at m
  refine zcr Tryz.func190 rfl (N := 91) rfl rfl (by simp) ?_
  repeat (refine zg ?_)
  refine zcd zd7 zem (by decide +kernel) ?_
  simp [-cellOK, m, zC, zB]
  refine .inl ⟨_, hrc, ?_⟩
  cases b with
  | true =>
    (try ((first | with_reducible refine zk ?_ | with_reducible refine zm ?_ | with_reducible refine zo ?_); simp [-cellOK, m, hS', hP', zat, iAV, vc, vo, nc, no, zA, n1, ra, rb])); repeat' (first | ((first | refine zd ?_ | refine zh ?_ | refine dN (by decide +kernel) ?_ | refine dC (by decide +kernel) ?_ | (refine za ?_ ?_ <;> (intro hg; simp only [hg])) | fail) <;> simp [-cellOK, m, hS', hP', zat, iAV, vc, vo, nc, no, zA, n1, ra, rb]) | refine zg ?_ | refine zc ?_ | (refine zs ?_; simp only [zt]; try simp) | (refine zb (fun hc => ?_) (fun hc => ?_) <;> try simp at hc) | fail)
    refine zaF (.inr rfl) (x := .tup []) (by simp) (hK1 rfl _ ?_ ?_)
    · simp [zA, m, za5, zca, hS', hP', zat, iAV]
    · repeat (first | exact Ex.refl _ _ | refine Ex.set ?_ _)
  | false =>
    cases rs with
    | cons r' rs =>
      (try ((first | with_reducible refine zk ?_ | with_reducible refine zm ?_ | with_reducible refine zo ?_); simp [-cellOK, m, hS', hP', zat, iAV, vc, vo, nc, no, zA, n1, ra, rb])); repeat' (first | ((first | refine zd ?_ | refine zh ?_ | refine dN (by decide +kernel) ?_ | refine dC (by decide +kernel) ?_ | (refine za ?_ ?_ <;> (intro hg; simp only [hg])) | fail) <;> simp [-cellOK, m, hS', hP', zat, iAV, vc, vo, nc, no, zA, n1, ra, rb]) | refine zg ?_ | refine zc ?_ | (refine zs ?_; simp only [zt]; try simp) | (refine zb (fun hc => ?_) (fun hc => ?_) <;> try simp at hc) | fail)
      generalize hσ1 : St.set _ _ _ = σ1
      have m1 : σ1.m ip = some (za5 { X with P := r' :: rs } d v (t.out, t.last) w (u.out, u.last) nx false vc0) := by rw [← hσ1]; simp [zA, m, za5, zca, hS', zN, zat, iAV]
      have hE1 : Ex ip σ σ1 := by rw [← hσ1]; repeat (first | exact Ex.refl _ _ | refine Ex.set ?_ _)
      refine zfx hsz m1 hS fun τ mτ hE => ?_
      (try ((first | with_reducible refine zk ?_ | with_reducible refine zm ?_ | with_reducible refine zo ?_); simp [-cellOK])); repeat' (first | ((first | refine zd ?_ | refine zh ?_ | refine dN (by decide +kernel) ?_ | refine dC (by decide +kernel) ?_ | (refine za ?_ ?_ <;> (intro hg; simp only [hg])) | fail) <;> simp [-cellOK]) | refine zg ?_ | refine zc ?_ | (refine zs ?_; simp only [zt]; try simp) | (refine zb (fun hc => ?_) (fun hc => ?_) <;> try simp at hc) | fail)
      exact zaF (.inl rfl) (x := .tup []) (by simp) (hK2 rfl (by simp) τ mτ (hE1.trans hE))
    | nil =>
      cases ss with
      | nil =>
        (try ((first | with_reducible refine zk ?_ | with_reducible refine zm ?_ | with_reducible refine zo ?_); simp [-cellOK, m, hS', hP', zat, iAV, vc, vo, nc, no, zA, n1, ra, rb])); repeat' (first | ((first | refine zd ?_ | refine zh ?_ | refine dN (by decide +kernel) ?_ | refine dC (by decide +kernel) ?_ | (refine za ?_ ?_ <;> (intro hg; simp only [hg])) | fail) <;> simp [-cellOK, m, hS', hP', zat, iAV, vc, vo, nc, no, zA, n1, ra, rb]) | refine zg ?_ | refine zc ?_ | (refine zs ?_; simp only [zt]; try simp) | (refine zb (fun hc => ?_) (fun hc => ?_) <;> try simp at hc) | fail)
        refine zaF (.inr rfl) (x := .tup []) (by simp) (hK3 rfl rfl rfl _ ?_ ?_)
        · simp [zA, m, za5, zca, hS', hP', zat, iAV, zq, zaJ]
        · repeat (first | exact Ex.refl _ _ | refine Ex.set ?_ _)
      | cons s' ss =>
        (try ((first | with_reducible refine zk ?_ | with_reducible refine zm ?_ | with_reducible refine zo ?_); simp [-cellOK, m, hS', hP', zat, iAV, vc, vo, nc, no, zA, n1, ra, rb])); repeat' (first | ((first | refine zd ?_ | refine zh ?_ | refine dN (by decide +kernel) ?_ | refine dC (by decide +kernel) ?_ | (refine za ?_ ?_ <;> (intro hg; simp only [hg])) | fail) <;> simp [-cellOK, m, hS', hP', zat, iAV, vc, vo, nc, no, zA, n1, ra, rb]) | refine zg ?_ | refine zc ?_ | (refine zs ?_; simp only [zt]; try simp) | (refine zb (fun hc => ?_) (fun hc => ?_) <;> try simp at hc) | fail)
        generalize hσ1 : St.set _ _ _ = σ1
        have m1 : σ1.m ip = some (za5 { X with P := X.A, S := s' :: ss } d v (t.out, t.last) w (u.out, u.last) nx false vc0) := by rw [← hσ1]; simp [zA, m, za5, zca, zq, zat, iAV]
        have hE1 : Ex ip σ σ1 := by rw [← hσ1]; repeat (first | exact Ex.refl _ _ | refine Ex.set ?_ _)
        refine zfx hsz m1 rfl fun τ mτ hE => ?_
        (try ((first | with_reducible refine zk ?_ | with_reducible refine zm ?_ | with_reducible refine zo ?_); simp [-cellOK])); repeat' (first | ((first | refine zd ?_ | refine zh ?_ | refine dN (by decide +kernel) ?_ | refine dC (by decide +kernel) ?_ | (refine za ?_ ?_ <;> (intro hg; simp only [hg])) | fail) <;> simp [-cellOK]) | refine zg ?_ | refine zc ?_ | (refine zs ?_; simp only [zt]; try simp) | (refine zb (fun hc => ?_) (fun hc => ?_) <;> try simp at hc) | fail)
        exact zaF (.inl rfl) (x := .tup []) (by simp) (hK4 rfl rfl s' ss rfl τ mτ (hE1.trans hE))
end Go.Proofs.YtanimmdlgmkmkaaGreat.Av
namespace Go.Proofs.YtanimmdlgmkmkaaGreat.Av
open Go
set_option linter.unusedSimpArgs false
set_option linter.unusedVariables false
set_option maxRecDepth 100000
set_option maxHeartbeats 4000000
set_option pp.maxSteps 600
theorem zlq {ip : Id} (hsz : ip.sz = 34) {X : PB} (hN : NwOK X.N) {σ : St} {d : Int} {v : AV} {x : Int} {p : List Int} {s : Int} {r : Rg} {rs : List Rg} (hP : X.P = r :: rs) (hw : Way X.N r.lo s d p)
    (m : σ.m ip = some (za5 X d v (x, ⟨0, 0⟩) zaJ z0 (zcQ ip) false vc0)) (hB : OwnB σ v (p.map iAV)) {K : AV → St → Prop}
    (hKf : ∀ τ v', (d ∈ p ∨ (zZ X.N d r.lo).1 ≠ 4) → τ.m ip = some (za5 X d v' ((zaa X.N s r.lo).out, (zaa X.N s r.lo).last) zaJ z0 (zcQ ip) false vc0) → OwnB τ v' ((zaa X.N s r.lo).path.map iAV) → Kp ip v v' σ τ → K (.raw (.bool false)) τ)
    (hKt : ∀ τ v', ¬ (d ∈ p ∨ (zZ X.N d r.lo).1 ≠ 4) → τ.m ip = some (za5 X (zbt X.N (zZ X.N d r.lo).2) v' (4, ⟨0, 0⟩) zaJ z0 (zcQ ip) false vc0) → OwnB τ v' ((p ++ [d]).map iAV) → Kp ip v v' σ τ → K (.raw (.bool true)) τ) :
    ACalls Tryz.prog 188 [.rp ip 0 0, z7 X.N X.F, .rp ip 0 17] σ K := by
  have hl := hw.len
  have hk := hN.links
  refine zlo X.N X.F hN hsz (c := fun j => (zca X d v (x, ⟨0, 0⟩) zaJ z0 (zcQ ip) false vc0)[j]?.getD .any) m (d := d) rfl (r := r) (rs := rs) (by rw [← hP]; rfl) (v := v) (p := p) rfl hB (by omega) ?_ ?_ ?_
  · intro hd τ v' mτ hB' hKp
    have e := hw.again hd
    exact hKf τ v' (.inl hd) (by rw [e]; exact mτ) (by rw [e]; exact hB') hKp
  · intro hd h4 τ v' mτ hB' hKp
    exact hKt τ v' (fun h => h.elim hd fun h => h h4) mτ hB' hKp
  · intro hd h4 τ v' mτ hB' hKp
    have e := hw.fin hd h4
    exact hKf τ v' (.inr h4) (by rw [e]; exact mτ) (by rw [e]; exact hB') hKp
theorem zlr {ip : Id} (hsz : ip.sz = 34) {X : PB} (hN : NwOK X.M) {σ : St} {d : Int} {v w : AV} {t : Int × Pt} {x : Int} {p : List Int} {s : Int} {r : Rg} {rs : List Rg} (hP : X.P = r :: rs) (hw : Way X.M r.lo s d p)
    (m : σ.m ip = some (za5 X d v t w (x, ⟨0, 0⟩) (zdv ip) false vc0)) (hB : OwnB σ w (p.map iAV)) {K : AV → St → Prop}
    (hKf : ∀ τ w', (d ∈ p ∨ (zZ X.M d r.lo).1 ≠ 4) → τ.m ip = some (za5 X d v t w' ((zaa X.M s r.lo).out, (zaa X.M s r.lo).last) (zdv ip) false vc0) → OwnB τ w' ((zaa X.M s r.lo).path.map iAV) → Kp ip w w' σ τ → K (.raw (.bool false)) τ)
    (hKt : ∀ τ w', ¬ (d ∈ p ∨ (zZ X.M d r.lo).1 ≠ 4) → τ.m ip = some (za5 X (zbt X.M (zZ X.M d r.lo).2) v t w' (4, ⟨0, 0⟩) (zdv ip) false vc0) → OwnB τ w' ((p ++ [d]).map iAV) → Kp ip w w' σ τ → K (.raw (.bool true)) τ) :
    ACalls Tryz.prog 188 [.rp ip 0 0, z7 X.M X.G, .rp ip 0 21] σ K := by
  have hl := hw.len
  have hk := hN.links
  refine zlp X.M X.G hN hsz (c := fun j => (zca X d v t w (x, ⟨0, 0⟩) (zdv ip) false vc0)[j]?.getD .any) m (d := d) rfl (r := r) (rs := rs) (by rw [← hP]; rfl) (v := w) (p := p) rfl hB (by omega) ?_ ?_ ?_
  · intro hd τ v' mτ hB' hKp
    have e := hw.again hd
    exact hKf τ v' (.inl hd) (by rw [e]; exact mτ) (by rw [e]; exact hB') hKp
  · intro hd h4 τ v' mτ hB' hKp
    exact hKt τ v' (fun h => h.elim hd fun h => h h4) mτ hB' hKp
  · intro hd h4 τ v' mτ hB' hKp
    have e := hw.fin hd h4
    exact hKf τ v' (.inr h4) (by rw [e]; exact mτ) (by rw [e]; exact hB') hKp
inductive Ph
  | one (p : List Int) (d : Int)
  | two (p : List Int) (d : Int)
  | fin (V : Vd)
deriving DecidableEq
def PbR (ip : Id) (X : PB) : Ph → AV → AV → St → Prop
  | .one p d, v, w, σ => w = zaJ ∧ OwnB σ v (p.map iAV) ∧ ∃ s ss r rs x, X.S = s :: ss ∧ X.P = r :: rs ∧ Way X.N r.lo s d p ∧ σ.m ip = some (za5 X d v (x, ⟨0, 0⟩) zaJ z0 (zcQ ip) false vc0)
  | .two p d, v, w, σ => OwnB σ w (p.map iAV) ∧ (∀ j, zbr v j → ¬ zbr w j) ∧ X.q.kind = 5 ∧ ∃ s ss r rs x, X.S = s :: ss ∧ X.P = r :: rs ∧ Way X.M r.lo s d p ∧ OwnB σ v ((zaa X.N s r.lo).path.map iAV) ∧
      σ.m ip = some (za5 X d v ((zaa X.N s r.lo).out, (zaa X.N s r.lo).last) w (x, ⟨0, 0⟩) (zdv ip) false vc0)
  | .fin V, v, w, σ => w = zaJ ∧ OwnB σ v (V.tr.path.map iAV) ∧ V.tr.path.length < 2 ^ 44 ∧ ∃ d v' t w' u nx, σ.m ip = some (za5 X d v' t w' u nx true ⟨V.holds, V.src, V.addr, v, V.tr.out, V.tr.last.dev, V.tr.last.port⟩)
def zbF (X : PB) (t u : Tk) : PB × Ph := match X.S, X.P with
  | s :: ss, r :: rs => if zaz X.q t u = true then (X, .fin ⟨false, s, r.lo, t⟩) else match rs with
    | _ :: _ => ({ X with P := rs }, .one [] s)
    | [] => match ss with
      | [] => ({ X with P := X.A, S := [] }, .fin ⟨true, 0, 0, zc2⟩)
      | s' :: _ => ({ X with P := X.A, S := ss }, .one [] s')
  | _, _ => (X, .one [] 0)
def zbM (X : PB) : Ph → PB × Ph
  | .one p d => match X.S, X.P with
    | s :: ss, r :: rs => if d ∈ p ∨ (zZ X.N d r.lo).1 ≠ 4 then (if X.q.kind = 5 then (X, .two [] s) else zbF X (zaa X.N s r.lo) zc2) else (X, .one (p ++ [d]) (zbt X.N (zZ X.N d r.lo).2))
    | _, _ => (X, .one p d)
  | .two p d => match X.S, X.P with
    | s :: ss, r :: rs => if d ∈ p ∨ (zZ X.M d r.lo).1 ≠ 4 then zbF X (zaa X.N s r.lo) (zaa X.M s r.lo) else (X, .two (p ++ [d]) (zbt X.M (zZ X.M d r.lo).2))
    | _, _ => (X, .two p d)
  | .fin V => (X, .fin V)
structure OkB (X : PB) : Prop where
  n : NwOK X.N
  m : NwOK X.M
  a : ∃ r rs, X.A = r :: rs
  al : X.A.length < 2 ^ 60
  sl : X.S.length < 2 ^ 60
  pl : X.P.length < 2 ^ 60
def Kq (ip : Id) (v w v' w' : AV) (σ τ : St) : Prop := (∀ i o, i ≠ ip → ¬ zbr v i → ¬ zbr w i → σ.m i = some o → τ.m i = some o ∧ ¬ zbr v' i ∧ ¬ zbr w' i) ∧ ∀ s, σ.nx s ≤ τ.nx s
theorem za4 (i : Id) : ¬ zbr zaJ i := fun ⟨l, e⟩ => by cases e
theorem zeQ (σ : St) : OwnB σ zaJ [] := .inl ⟨rfl, rfl⟩
theorem Way.tlen {n : Nw} (hn : NwOK n) (a d : Int) : (zaa n d a).path.length < 2 ^ 44 := by
  have hk := hn.links
  have : ∀ f d p, (zdr n a f d p).path.length ≤ p.length + f := by
    intro f
    induction f with
    | zero => intro d p; simp [zdr]
    | succ f ih =>
      intro d p
      rw [zdr]
      split
      · simp
      · split
        · have := ih (zbt n (zZ n d a).2) (p ++ [d])
          simp only [List.length_append, List.length_singleton] at this; omega
        · simp
  have := this (2 + 2 * n.t.links.length) d []
  unfold zaa
  simp only [List.length_nil] at this
  omega
theorem zjb {ip : Id} (hsz : ip.sz = 34) {X : PB} (hX : OkB X) {d : Int} {v : AV} {t : Tk} {w : AV} {u : Tk} {nx : AV} {σ : St} (m : σ.m ip = some (za5 X d v (t.out, t.last) w (u.out, u.last) nx false vc0))
    (hv : OwnB σ v (t.path.map iAV)) (hw : OwnB σ w (u.path.map iAV)) (ht : t.path.length < 2 ^ 44) (hu : u.path.length < 2 ^ 44) (hnx : nx.cells = [nx] ∧ cellOK nx = true)
    {s : Int} {ss : List Int} (hS : X.S = s :: ss) {r : Rg} {rs : List Rg} (hP : X.P = r :: rs) (hd : ∀ j, zbr v j → ¬ zbr w j) {K : AV → St → Prop}
    (hK : ∀ τ v' w', PbR ip (zbF X t u).1 (zbF X t u).2 v' w' τ → Kq ip v w v' w' σ τ → K (.tup []) τ) :
    ACalls Tryz.prog 190 [.rp ip 0 0] σ K := by
  have hat : ∀ {v : AV} {es : List AV}, OwnB σ v es → ¬ zbr v ip := by
    rintro v es (⟨_, rfl⟩ | ⟨j, rfl, hj, _⟩) ⟨l, e⟩
    · cases e
    · injection e with e; subst e; rw [hsz] at hj; cases hj
  obtain ⟨N, M, F, G, q, S, A, P⟩ := X
  dsimp only at hS hP
  subst hS; subst hP
  unfold zbF at hK
  dsimp only at hK
  refine zl9 hsz m hv hw (by omega) (by omega) hnx rfl rfl hX.sl hX.pl ?_ ?_ ?_ ?_
  · intro hb τ mτ hE
    rw [if_pos hb] at hK
    exact hK τ v zaJ ⟨rfl, hv.ex (hat hv) hE, ht, _, _, _, _, _, _, mτ⟩ ⟨fun i o n n1 n2 e => ⟨hE.1 i o n e, n1, za4 i⟩, hE.2⟩
  · intro hb hne τ mτ hE
    rw [if_neg (by simp [hb])] at hK
    cases rs with
    | nil => exact absurd rfl hne
    | cons r' rs =>
      exact hK τ zaJ zaJ ⟨rfl, zeQ _, s, ss, r', rs, _, rfl, rfl, Way.start _ _ _, mτ⟩ ⟨fun i o n n1 n2 e => ⟨hE.1 i o n e, za4 i, za4 i⟩, hE.2⟩
  · intro hb e1 e2 τ mτ hE
    rw [if_neg (by simp [hb])] at hK
    subst e1; subst e2
    exact hK τ zaJ zaJ ⟨rfl, zeQ _, by decide, _, _, _, _, _, _, mτ⟩ ⟨fun i o n n1 n2 e => ⟨hE.1 i o n e, za4 i, za4 i⟩, hE.2⟩
  · intro hb e1 s' ss' e2 τ mτ hE
    rw [if_neg (by simp [hb])] at hK
    subst e1; subst e2
    obtain ⟨r', rs', hA⟩ := hX.a
    exact hK τ zaJ zaJ ⟨rfl, zeQ _, s', ss', r', rs', _, rfl, hA, Way.start _ _ _, mτ⟩ ⟨fun i o n n1 n2 e => ⟨hE.1 i o n e, za4 i, za4 i⟩, hE.2⟩
end Go.Proofs.YtanimmdlgmkmkaaGreat.Av
namespace Go.Proofs.YtanimmdlgmkmkaaGreat.Av
open Go
set_option linter.unusedSimpArgs false
set_option linter.unusedVariables false
set_option maxRecDepth 100000
set_option maxHeartbeats 4000000
set_option pp.maxSteps 600
theorem Kq.one {ip : Id} {v v' : AV} {σ τ : St} (h : Kp ip v v' σ τ) : Kq ip v zaJ v' zaJ σ τ := ⟨fun i o n n1 n2 e => ⟨(h.1 i o n n1 e).1, (h.1 i o n n1 e).2, za4 i⟩, h.2⟩
theorem Kq.two {ip : Id} {v w w' : AV} {σ τ : St} (h : Kp ip w w' σ τ) : Kq ip v w v w' σ τ := ⟨fun i o n n1 n2 e => ⟨(h.1 i o n n2 e).1, n1, (h.1 i o n n2 e).2⟩, h.2⟩
theorem Kq.trans {ip : Id} {v w v' w' v'' w'' : AV} {ρ σ τ : St} (h : Kq ip v w v' w' ρ σ) (k : Kq ip v' w' v'' w'' σ τ) : Kq ip v w v'' w'' ρ τ :=
  ⟨fun i o n n1 n2 e => by obtain ⟨a, b, c⟩ := h.1 i o n n1 n2 e; exact k.1 i o n b c a, fun s => Nat.le_trans (h.2 s) (k.2 s)⟩
theorem Kq.ex {ip : Id} {v w v' w' : AV} {ρ σ τ : St} (h : Kq ip v w v' w' ρ σ) (k : Ex ip σ τ) : Kq ip v w v' w' ρ τ :=
  ⟨fun i o n n1 n2 e => by obtain ⟨a, b, c⟩ := h.1 i o n n1 n2 e; exact ⟨k.1 i o n a, b, c⟩, fun s => Nat.le_trans (h.2 s) (k.2 s)⟩
theorem zp5 {ip : Id} (hsz : ip.sz = 34) {σ : St} {v : AV} {es : List AV} (h : OwnB σ v es) : ¬ zbr v ip := by
  rcases h with ⟨_, rfl⟩ | ⟨j, rfl, hj, _⟩
  · rintro ⟨l, e⟩; cases e
  · rintro ⟨l, e⟩
    injection e with e; subst e; rw [hsz] at hj; cases hj
theorem zls {ip : Id} (hsz : ip.sz = 34) {X : PB} (hX : OkB X) {p : List Int} {d : Int} {v w : AV} {σ : St} (h : PbR ip X (.one p d) v w σ) {K : AV → St → Prop}
    (hK : ∀ τ v' w', PbR ip (zbM X (.one p d)).1 (zbM X (.one p d)).2 v' w' τ → Kq ip v w v' w' σ τ → K (.tup []) τ) : ACalls Tryz.prog 137 [.rp ip 0 0] σ K := by
  obtain ⟨rfl, hB, s, ss, r, rs, x, hS, hP, hw, m⟩ := h
  have hS' : zq X.S false = .sl 1 (iAV s :: ss.map iAV) false := by rw [hS]; rfl
  have hvis := fun K kf kt => zlq (K := K) hsz hX.n hP hw m hB kf kt
  have ht := Way.tlen hX.n r.lo s
  simp only [zbM, hS, hP] at hK
  simp only [za5, zca] at m
  refine zcr Tryz.func137 rfl (N := 35) rfl rfl (by simp) ?_
  (try ((first | with_reducible refine zk ?_ | with_reducible refine zm ?_ | with_reducible refine zo ?_); simp [-cellOK, m, zC])); repeat' (first | ((first | refine zd ?_ | refine zh ?_ | refine dN (by decide +kernel) ?_ | refine dC (by decide +kernel) ?_ | (refine za ?_ ?_ <;> (intro hg; simp only [hg])) | fail) <;> simp [-cellOK, m, zC]) | refine zg ?_ | refine zc ?_ | (refine zs ?_; simp only [zt]; try simp) | (refine zb (fun hc => ?_) (fun hc => ?_) <;> try simp at hc) | fail)
  refine hvis _ (fun τ v' he mτ hB' hKp => ?_) (fun τ v' he mτ hB' hKp => ?_)
  · rw [if_pos he] at hK
    have m1 := mτ
    simp only [za5, zca] at m1
    by_cases k5 : X.q.kind = 5
    · rw [if_pos k5] at hK
      (try ((first | with_reducible refine zk ?_ | with_reducible refine zm ?_ | with_reducible refine zo ?_); simp [-cellOK, m1, k5, hS', iAV, zA])); repeat' (first | ((first | refine zd ?_ | refine zh ?_ | refine dN (by decide +kernel) ?_ | refine dC (by decide +kernel) ?_ | (refine za ?_ ?_ <;> (intro hg; simp only [hg])) | fail) <;> simp [-cellOK, m1, k5, hS', iAV, zA]) | refine zg ?_ | refine zc ?_ | (refine zs ?_; simp only [zt]; try simp) | (refine zb (fun hc => ?_) (fun hc => ?_) <;> try simp at hc) | fail)
      refine zaF (.inl rfl) (x := .tup []) (by simp) (hK _ v' zaJ ⟨zeQ _, fun j _ => za4 j, k5, s, ss, r, rs, 0, hS, hP, Way.start _ _ _, hB'.ex (zp5 hsz hB') ?_, ?_⟩ ((Kq.one hKp).ex ?_))
      · exact ((Ex.refl _ _).set _).set _
      · simp [zA, m1, za5, zca, zdv, z0, hS', iAV, k5]
      · exact ((Ex.refl _ _).set _).set _
    · rw [if_neg k5] at hK
      have k5' := eq_false k5
      (try ((first | with_reducible refine zk ?_ | with_reducible refine zm ?_ | with_reducible refine zo ?_); simp [-cellOK, m1, k5', hS', iAV, zA])); repeat' (first | ((first | refine zd ?_ | refine zh ?_ | refine dN (by decide +kernel) ?_ | refine dC (by decide +kernel) ?_ | (refine za ?_ ?_ <;> (intro hg; simp only [hg])) | fail) <;> simp [-cellOK, m1, k5', hS', iAV, zA]) | refine zg ?_ | refine zc ?_ | (refine zs ?_; simp only [zt]; try simp) | (refine zb (fun hc => ?_) (fun hc => ?_) <;> try simp at hc) | fail)
      refine zjb hsz hX (u := zc2) mτ hB' (zeQ _) ht (by decide) ⟨rfl, rfl⟩ hS hP (fun j _ => za4 j) fun τ2 v2 w2 h2 k2 => ?_
      (try ((first | with_reducible refine zk ?_ | with_reducible refine zm ?_ | with_reducible refine zo ?_); simp [-cellOK])); repeat' (first | ((first | refine zd ?_ | refine zh ?_ | refine dN (by decide +kernel) ?_ | refine dC (by decide +kernel) ?_ | (refine za ?_ ?_ <;> (intro hg; simp only [hg])) | fail) <;> simp [-cellOK]) | refine zg ?_ | refine zc ?_ | (refine zs ?_; simp only [zt]; try simp) | (refine zb (fun hc => ?_) (fun hc => ?_) <;> try simp at hc) | fail)
      exact zaF (.inl rfl) (x := .tup []) (by simp) (hK _ v2 w2 h2 ((Kq.one hKp).trans k2))
  · rw [if_neg he] at hK
    (try ((first | with_reducible refine zk ?_ | with_reducible refine zm ?_ | with_reducible refine zo ?_); simp [-cellOK])); repeat' (first | ((first | refine zd ?_ | refine zh ?_ | refine dN (by decide +kernel) ?_ | refine dC (by decide +kernel) ?_ | (refine za ?_ ?_ <;> (intro hg; simp only [hg])) | fail) <;> simp [-cellOK]) | refine zg ?_ | refine zc ?_ | (refine zs ?_; simp only [zt]; try simp) | (refine zb (fun hc => ?_) (fun hc => ?_) <;> try simp at hc) | fail)
    exact zaF (.inl rfl) (x := .tup []) (by simp) (hK _ v' zaJ ⟨rfl, hB', s, ss, r, rs, 4, hS, hP, hw.on (fun h => he (.inl h)) (Classical.byContradiction fun h => he (.inr h)), mτ⟩ (Kq.one hKp))
theorem zko {ip : Id} (hsz : ip.sz = 34) {X : PB} (hX : OkB X) {p : List Int} {d : Int} {v w : AV} {σ : St} (h : PbR ip X (.two p d) v w σ) {K : AV → St → Prop}
    (hK : ∀ τ v' w', PbR ip (zbM X (.two p d)).1 (zbM X (.two p d)).2 v' w' τ → Kq ip v w v' w' σ τ → K (.tup []) τ) : ACalls Tryz.prog 189 [.rp ip 0 0] σ K := by
  obtain ⟨hB, hdis, k5, s, ss, r, rs, x, hS, hP, hw, hv, m⟩ := h
  have hvis := fun K kf kt => zlr (K := K) hsz hX.m hP hw m hB kf kt
  have ht := Way.tlen hX.n r.lo s
  have hu := Way.tlen hX.m r.lo s
  simp only [zbM, hS, hP] at hK
  simp only [za5, zca] at m
  refine zcr Tryz.func189 rfl (N := 14) rfl rfl (by simp) ?_
  (try ((first | with_reducible refine zk ?_ | with_reducible refine zm ?_ | with_reducible refine zo ?_); simp [-cellOK, m, zC])); repeat' (first | ((first | refine zd ?_ | refine zh ?_ | refine dN (by decide +kernel) ?_ | refine dC (by decide +kernel) ?_ | (refine za ?_ ?_ <;> (intro hg; simp only [hg])) | fail) <;> simp [-cellOK, m, zC]) | refine zg ?_ | refine zc ?_ | (refine zs ?_; simp only [zt]; try simp) | (refine zb (fun hc => ?_) (fun hc => ?_) <;> try simp at hc) | fail)
  have hv' : ∀ {τ w'}, Kp ip w w' σ τ → OwnB τ v ((zaa X.N s r.lo).path.map iAV) ∧ ∀ j, zbr v j → ¬ zbr w' j := by
    intro τ w' hKp
    rcases hv with ⟨e1, e2⟩ | ⟨j, e, hj, hm⟩
    · exact ⟨.inl ⟨e1, e2⟩, fun j hj => by rw [e2] at hj; exact absurd hj (za4 j)⟩
    · have a1 : zbr v j := ⟨_, e⟩
      obtain ⟨b1, b2⟩ := hKp.1 j _ (fun q => by rw [q, hsz] at hj; cases hj) (hdis j a1) hm
      refine ⟨.inr ⟨j, e, hj, b1⟩, fun i ⟨l, hi⟩ => ?_⟩
      rw [e] at hi
      injection hi with hi; subst hi; exact b2
  refine hvis _ (fun τ w' he mτ hB' hKp => ?_) (fun τ w' he mτ hB' hKp => ?_)
  · rw [if_pos he] at hK
    obtain ⟨hv1, hd1⟩ := hv' hKp
    (try ((first | with_reducible refine zk ?_ | with_reducible refine zm ?_ | with_reducible refine zo ?_); simp [-cellOK])); repeat' (first | ((first | refine zd ?_ | refine zh ?_ | refine dN (by decide +kernel) ?_ | refine dC (by decide +kernel) ?_ | (refine za ?_ ?_ <;> (intro hg; simp only [hg])) | fail) <;> simp [-cellOK]) | refine zg ?_ | refine zc ?_ | (refine zs ?_; simp only [zt]; try simp) | (refine zb (fun hc => ?_) (fun hc => ?_) <;> try simp at hc) | fail)
    refine zjb hsz hX mτ hv1 hB' ht hu ⟨rfl, rfl⟩ hS hP hd1 fun τ2 v2 w2 h2 k2 => ?_
    (try ((first | with_reducible refine zk ?_ | with_reducible refine zm ?_ | with_reducible refine zo ?_); simp [-cellOK])); repeat' (first | ((first | refine zd ?_ | refine zh ?_ | refine dN (by decide +kernel) ?_ | refine dC (by decide +kernel) ?_ | (refine za ?_ ?_ <;> (intro hg; simp only [hg])) | fail) <;> simp [-cellOK]) | refine zg ?_ | refine zc ?_ | (refine zs ?_; simp only [zt]; try simp) | (refine zb (fun hc => ?_) (fun hc => ?_) <;> try simp at hc) | fail)
    exact zaF (.inl rfl) (x := .tup []) (by simp) (hK _ v2 w2 h2 ((Kq.two hKp).trans k2))
  · rw [if_neg he] at hK
    obtain ⟨hv1, hd1⟩ := hv' hKp
    (try ((first | with_reducible refine zk ?_ | with_reducible refine zm ?_ | with_reducible refine zo ?_); simp [-cellOK])); repeat' (first | ((first | refine zd ?_ | refine zh ?_ | refine dN (by decide +kernel) ?_ | refine dC (by decide +kernel) ?_ | (refine za ?_ ?_ <;> (intro hg; simp only [hg])) | fail) <;> simp [-cellOK]) | refine zg ?_ | refine zc ?_ | (refine zs ?_; simp only [zt]; try simp) | (refine zb (fun hc => ?_) (fun hc => ?_) <;> try simp at hc) | fail)
    exact zaF (.inl rfl) (x := .tup []) (by simp) (hK _ v w' ⟨hB', hd1, k5, s, ss, r, rs, 4, hS, hP, hw.on (fun h => he (.inl h)) (Classical.byContradiction fun h => he (.inr h)), hv1, mτ⟩ (Kq.two hKp))
end Go.Proofs.YtanimmdlgmkmkaaGreat.Av
namespace Go.Proofs.YtanimmdlgmkmkaaGreat.Av
open Go
set_option linter.unusedSimpArgs false
set_option linter.unusedVariables false
set_option maxRecDepth 100000
set_option maxHeartbeats 4000000
set_option pp.maxSteps 600
theorem zjD {σ : St} {v : AV} {l : List Int} (h : OwnB σ v (l.map iAV)) (hl : l.length < 2 ^ 44) {K : AV → St → Prop} (hK : ∀ τ, Ext σ τ → K (zq l false) τ) : ACalls Tryz.prog 88 [v] σ K := by
  rcases h with ⟨e1, rfl⟩ | ⟨j, rfl, hj, m⟩
  · have e : l = [] := by simpa using e1
    subst e
    refine ACalls.args (bs := [zq [] false]) (fun S vs h => ?_) ((zjC [] false (by decide)).use (hK _ (Ext.refl _)))
    simp only [LRel, zq, List.map_nil] at h ⊢
    obtain ⟨x, xs, e, h1, h2⟩ := h
    exact ⟨x, xs, e, zbD _ _ h1, h2⟩
  · refine zcr Tryz.func88 rfl (N := 8) rfl rfl (by simp) ?_
    (try ((first | with_reducible refine zk ?_ | with_reducible refine zm ?_ | with_reducible refine zo ?_); simp [-cellOK, -zO])); repeat' (first | ((first | refine zd ?_ | refine zh ?_ | refine dN (by decide +kernel) ?_ | refine dC (by decide +kernel) ?_ | (refine za ?_ ?_ <;> (intro hg; simp only [hg])) | fail) <;> simp [-cellOK, -zO]) | refine zg ?_ | refine zc ?_ | (refine zs ?_; simp only [zt]; try simp) | (refine zb (fun hc => ?_) (fun hc => ?_) <;> try simp at hc) | fail)
    refine zaV zel (σ0 := σ) (es := []) (OwnL.of rfl (by simp) (zf _ _ _) rfl) (Ext.new _ _ _ _) (ys := l.map iAV) (by simp [zaR _ _ m, List.take_of_length_le]) (.inr hj) (zmk _) (by simp at hl ⊢; omega) ?_
    intro v1 τ1 hO1 hE1 _ _
    rw [List.nil_append] at hO1
    (try ((first | with_reducible refine zk ?_ | with_reducible refine zm ?_ | with_reducible refine zo ?_); simp [-cellOK, -zO])); repeat' (first | ((first | refine zd ?_ | refine zh ?_ | refine dN (by decide +kernel) ?_ | refine dC (by decide +kernel) ?_ | (refine za ?_ ?_ <;> (intro hg; simp only [hg])) | fail) <;> simp [-cellOK, -zO]) | refine zg ?_ | refine zc ?_ | (refine zs ?_; simp only [zt]; try simp) | (refine zb (fun hc => ?_) (fun hc => ?_) <;> try simp at hc) | fail)
    exact zou (.inr rfl) (by simp) hO1 hE1 fun τ hE => hK τ hE
theorem zdX {ip : Id} {X : PB} {d : Int} {v : AV} {t : Int × Pt} {w : AV} {u : Int × Pt} {nx : AV} {dn : Bool} {r : VC} {σ : St} (m : σ.m ip = some (za5 X d v t w u nx dn r)) {K : AV → St → Prop}
    (hK : K (.raw (.bool dn)) σ) : ACalls Tryz.prog 35 [.rp ip 0 0] σ K := by
  simp only [za5, zca] at m
  refine zcr Tryz.func35 rfl (N := 11) rfl rfl (by simp) ?_
  (try ((first | with_reducible refine zk ?_ | with_reducible refine zm ?_ | with_reducible refine zo ?_); simp [-cellOK, m])); repeat' (first | ((first | refine zd ?_ | refine zh ?_ | refine dN (by decide +kernel) ?_ | refine dC (by decide +kernel) ?_ | (refine za ?_ ?_ <;> (intro hg; simp only [hg])) | fail) <;> simp [-cellOK, m]) | refine zg ?_ | refine zc ?_ | (refine zs ?_; simp only [zt]; try simp) | (refine zb (fun hc => ?_) (fun hc => ?_) <;> try simp at hc) | fail)
  exact zaF (.inr rfl) (by simp) hK
theorem zjc {ip : Id} {X : PB} {d : Int} {v : AV} {t : Int × Pt} {w : AV} {u : Int × Pt} {nx : AV} {r : VC} {σ : St} (m : σ.m ip = some (za5 X d v t w u nx false r)) {K : AV → St → Prop}
    (hK : ∀ τ, Ext σ τ → K (.tup [zcv, .raw (.bool false)]) τ) : ACalls Tryz.prog 34 [.rp ip 0 0] σ K := by
  refine zcr Tryz.func34 rfl (N := 20) rfl rfl (by simp) ?_
  (try ((first | with_reducible refine zk ?_ | with_reducible refine zm ?_ | with_reducible refine zo ?_); simp [-cellOK, zA, zz])); repeat' (first | ((first | refine zd ?_ | refine zh ?_ | refine dN (by decide +kernel) ?_ | refine dC (by decide +kernel) ?_ | (refine za ?_ ?_ <;> (intro hg; simp only [hg])) | fail) <;> simp [-cellOK, zA, zz]) | refine zg ?_ | refine zc ?_ | (refine zs ?_; simp only [zt]; try simp) | (refine zb (fun hc => ?_) (fun hc => ?_) <;> try simp at hc) | fail)
  refine zdX (X := X) (zaR _ _ m) ?_
  (try ((first | with_reducible refine zk ?_ | with_reducible refine zm ?_ | with_reducible refine zo ?_); simp [-cellOK, zA, zz])); repeat' (first | ((first | refine zd ?_ | refine zh ?_ | refine dN (by decide +kernel) ?_ | refine dC (by decide +kernel) ?_ | (refine za ?_ ?_ <;> (intro hg; simp only [hg])) | fail) <;> simp [-cellOK, zA, zz]) | refine zg ?_ | refine zc ?_ | (refine zs ?_; simp only [zt]; try simp) | (refine zb (fun hc => ?_) (fun hc => ?_) <;> try simp at hc) | fail)
  exact zaF (x := .tup [zcv, .raw (.bool false)]) (.inr rfl) (by simp [zA, zz, zcv]) (hK _ (by repeat (first | assumption | exact Ext.refl _ | refine zu ?_ | refine Ext.setF ?_ (by first | assumption | (simp [ze, St.set, zf]; done) | exact zp (by assumption)))))
theorem zgF {ip : Id} (hsz : ip.sz = 34) {X : PB} {V : Vd} {v w : AV} {σ : St} (h : PbR ip X (.fin V) v w σ) {K : AV → St → Prop}
    (hK : ∀ τ, Ext σ τ → K (.tup [zb9 V false, .raw (.bool true)]) τ) : ACalls Tryz.prog 34 [.rp ip 0 0] σ K := by
  obtain ⟨rfl, hB, hl, d, v', t, w', u, nx, m⟩ := h
  obtain ⟨vc, vo⟩ := hB.cells
  refine zcr Tryz.func34 rfl (N := 20) rfl rfl (by simp) ?_
  (try ((first | with_reducible refine zk ?_ | with_reducible refine zm ?_ | with_reducible refine zo ?_); simp [-cellOK, zA, zz])); repeat' (first | ((first | refine zd ?_ | refine zh ?_ | refine dN (by decide +kernel) ?_ | refine dC (by decide +kernel) ?_ | (refine za ?_ ?_ <;> (intro hg; simp only [hg])) | fail) <;> simp [-cellOK, zA, zz]) | refine zg ?_ | refine zc ?_ | (refine zs ?_; simp only [zt]; try simp) | (refine zb (fun hc => ?_) (fun hc => ?_) <;> try simp at hc) | fail)
  refine zdX (X := X) (zaR _ _ m) ?_
  have m1 := m
  simp only [za5, zca] at m1
  have hne : ∀ a b, (ip = ⟨a, b, 7⟩) = False := fun a b => eq_false fun e => by rw [e] at hsz; cases hsz
  (try ((first | with_reducible refine zk ?_ | with_reducible refine zm ?_ | with_reducible refine zo ?_); simp [-cellOK, zA, zz, ze, m1, vc, vo, hne])); repeat' (first | ((first | refine zd ?_ | refine zh ?_ | refine dN (by decide +kernel) ?_ | refine dC (by decide +kernel) ?_ | (refine za ?_ ?_ <;> (intro hg; simp only [hg])) | fail) <;> simp [-cellOK, zA, zz, ze, m1, vc, vo, hne]) | refine zg ?_ | refine zc ?_ | (refine zs ?_; simp only [zt]; try simp) | (refine zb (fun hc => ?_) (fun hc => ?_) <;> try simp at hc) | fail)
  have hES : Ext σ (St.set (St.new (St.new σ 2 7 (.buf [zcv])) 4 7 (.buf [zcv])) ⟨4, σ.nx 4, 7⟩ (.buf [.agg [.raw (.bool V.holds), .raw (.int .i64 V.src), .raw (.int .u32 V.addr), v, .raw (.int .i64 V.tr.out), .raw (.int .i64 V.tr.last.dev), .raw (.int .i64 V.tr.last.port)]])) := (by repeat (first | assumption | exact Ext.refl _ | refine zu ?_ | refine Ext.setF ?_ (by first | assumption | (simp [ze, St.set, zf]; done) | exact zp (by assumption))))
  simp only [zcv] at hES
  generalize hST : St.set _ _ _ = ST at hES ⊢
  have g2 : ST.m ⟨2, σ.nx 2, 7⟩ = some (.buf [zcv]) := by rw [← hST]; simp [zA, zz, zcv]
  have g4 : ST.m ⟨4, σ.nx 4, 7⟩ = some (.buf [.agg [.raw (.bool V.holds), .raw (.int .i64 V.src), .raw (.int .u32 V.addr), v, .raw (.int .i64 V.tr.out), .raw (.int .i64 V.tr.last.dev), .raw (.int .i64 V.tr.last.port)]]) := by rw [← hST]; simp [zA, zz, ze]
  clear hST
  have f2 : σ.m ⟨2, σ.nx 2, 7⟩ = none := zf _ _ _
  have f4 : σ.m ⟨4, σ.nx 4, 7⟩ = none := zf _ _ _
  refine zjD (hB.up fun i o _ e => hES.1 i o e) (by omega) fun τ hE => ?_
  have g2 := hE.1 _ _ g2
  have g4 := hE.1 _ _ g4
  have hEτ := hES.trans hE
  clear hE hES
  simp only [zcv] at g2
  (try ((first | with_reducible refine zk ?_ | with_reducible refine zm ?_ | with_reducible refine zo ?_); simp [-cellOK, zA, g2, g4, zq])); repeat' (first | ((first | refine zd ?_ | refine zh ?_ | refine dN (by decide +kernel) ?_ | refine dC (by decide +kernel) ?_ | (refine za ?_ ?_ <;> (intro hg; simp only [hg])) | fail) <;> simp [-cellOK, zA, g2, g4, zq]) | refine zg ?_ | refine zc ?_ | (refine zs ?_; simp only [zt]; try simp) | (refine zb (fun hc => ?_) (fun hc => ?_) <;> try simp at hc) | fail)
  exact zaF (x := .tup [zb9 V false, .raw (.bool true)]) (.inr rfl) (by simp [zA, g2, g4, zb9, zq]) (hK _ ((hEτ.setF f4).setF f2))
end Go.Proofs.YtanimmdlgmkmkaaGreat.Av
namespace Go.Proofs.YtanimmdlgmkmkaaGreat.Av
open Go
set_option linter.unusedSimpArgs false
set_option linter.unusedVariables false
set_option maxRecDepth 100000
set_option maxHeartbeats 4000000
set_option pp.maxSteps 600
def Ph.done : Ph → Bool
  | .fin _ => true
  | _ => false
def Ph.nx (ip : Id) : Ph → AV
  | .one _ _ => zcQ ip
  | _ => zdv ip
theorem PbR.ob {ip : Id} {X : PB} {ph : Ph} {v w : AV} {σ : St} (h : PbR ip X ph v w σ) : ∃ d v1 t w1 u nx r, σ.m ip = some (za5 X d v1 t w1 u nx ph.done r) ∧ (ph.done = false → nx = ph.nx ip) := by
  cases ph with
  | one p d =>
    obtain ⟨rfl, hB, s, ss, r, rs, x, hS, hP, hw, m⟩ := h
    exact ⟨_, _, _, _, _, _, _, m, fun _ => rfl⟩
  | two p d =>
    obtain ⟨hB, hdis, k5, s, ss, r, rs, x, hS, hP, hw, hv, m⟩ := h
    exact ⟨_, _, _, _, _, _, _, m, fun _ => rfl⟩
  | fin V =>
    obtain ⟨rfl, hB, hl, d, v', t, w', u, nx, m⟩ := h
    exact ⟨_, _, _, _, _, _, _, m, fun h => by cases h⟩
theorem zm6 {ip : Id} (hsz : ip.sz = 34) {X : PB} (hX : OkB X) {ph : Ph} (hd : ph.done = false) {v w : AV} {σ : St} (h : PbR ip X ph v w σ) {f : FuncId} (hf : ph.nx ip = .fn (.func f) [.rp ip 0 0] []) {K : AV → St → Prop}
    (hK : ∀ τ v' w', PbR ip (zbM X ph).1 (zbM X ph).2 v' w' τ → Kq ip v w v' w' σ τ → K (.tup []) τ) : ACalls Tryz.prog f [.rp ip 0 0] σ K := by
  cases ph with
  | one p d =>
    injection hf with e1
    injection e1 with e1
    subst e1
    exact zls hsz hX h hK
  | two p d =>
    injection hf with e1
    injection e1 with e1
    subst e1
    exact zko hsz hX h hK
  | fin V => cases hd
theorem Ph.nx_fn (ip : Id) (ph : Ph) : ∃ f, ph.nx ip = .fn (.func f) [.rp ip 0 0] [] := by
  cases ph
  · exact ⟨_, rfl⟩
  · exact ⟨_, rfl⟩
  · exact ⟨_, rfl⟩
theorem OkB.over {X : PB} (h : OkB X) (t u : Tk) : OkB (zbF X t u).1 := by
  unfold zbF
  have hs := h.sl
  have hp := h.pl
  split
  · rename_i s ss r rs hS hP
    rw [hS, List.length_cons] at hs
    rw [hP, List.length_cons] at hp
    split
    · exact h
    · split
      · exact ⟨h.n, h.m, h.a, h.al, h.sl, by show List.length (_ :: _) < _; simp only [List.length_cons] at *; omega⟩
      · split
        · exact ⟨h.n, h.m, h.a, h.al, by simp, h.al⟩
        · exact ⟨h.n, h.m, h.a, h.al, by show List.length (_ :: _) < _; simp only [List.length_cons] at *; omega, h.al⟩
  · exact h
theorem OkB.step {X : PB} (h : OkB X) (ph : Ph) : OkB (zbM X ph).1 := by
  unfold zbM
  split
  · split
    · split
      · split
        · exact h
        · exact h.over _ _
      · exact h
    · exact h
  · split
    · split
      · exact h.over _ _
      · exact h
    · exact h
  · exact h
def goP : Nat → PB → Ph → (PB × Ph) × Nat
  | 0, X, ph => ((X, ph), 0)
  | k + 1, X, ph => if ph.done = true then ((X, ph), 0) else ((goP k (zbM X ph).1 (zbM X ph).2).1, (goP k (zbM X ph).1 (zbM X ph).2).2 + 1)
theorem zlt (k : Nat) {X : PB} {ph : Ph} (h : ph.done = true) : goP k X ph = ((X, ph), 0) := by
  cases k with
  | zero => rfl
  | succ k => rw [goP, if_pos h]
theorem zfy {ip : Id} (hsz : ip.sz = 34) {X : PB} (hX : OkB X) {ph : Ph} (hd : ph.done = false) {v w : AV} {σ : St} (h : PbR ip X ph v w σ) {f : Int} (hf : 1 ≤ f) (hf2 : f < 2 ^ 63) {K : AV → St → Prop}
    (hK : ∀ τ v' w', PbR ip (goP f.toNat X ph).1.1 (goP f.toNat X ph).1.2 v' w' τ → Kq ip v w v' w' σ τ → K (.tup [.raw (.int .i64 (goP f.toNat X ph).2), .raw (.int .i64 0)]) τ) :
    ACalls Tryz.prog 36 [.rp ip 0 0, .raw (.int .i64 f)] σ K := by
  obtain ⟨d, v1, t, w1, u, nx, r, m, hn⟩ := h.ob
  rw [hd] at m
  simp only [za5, zca] at m
  have f1 : (f < 1) = False := eq_false (by omega)
  refine zcr Tryz.func36 rfl (N := 37) rfl rfl (by simp) ?_
  (try ((first | with_reducible refine zk ?_ | with_reducible refine zm ?_ | with_reducible refine zo ?_); simp [-cellOK, m, f1])); repeat' (first | ((first | refine zd ?_ | refine zh ?_ | refine dN (by decide +kernel) ?_ | refine dC (by decide +kernel) ?_ | (refine za ?_ ?_ <;> (intro hg; simp only [hg])) | fail) <;> simp [-cellOK, m, f1]) | refine zg ?_ | refine zc ?_ | (refine zs ?_; simp only [zt]; try simp) | (refine zb (fun hc => ?_) (fun hc => ?_) <;> try simp at hc) | fail)
  refine zab (fun n' B τ => B 0 = .rp ip 0 0 ∧ B 1 = .raw (.int .i64 f) ∧ ∃ k : Nat, B 6 = .raw (.int .i64 k) ∧ k ≤ f.toNat ∧ n' = f.toNat - k ∧ ∃ X' ph' v' w', OkB X' ∧ PbR ip X' ph' v' w' τ ∧ Kq ip v w v' w' σ τ ∧ goP f.toNat X ph = ((goP (f.toNat - k) X' ph').1, (goP (f.toNat - k) X' ph').2 + k)) f.toNat ?_ ?_
  · refine ⟨by simp, by simp, 0, by simp, by omega, by omega, X, ph, v, w, hX, h, ⟨fun i o n n1 n2 e => ⟨e, n1, n2⟩, fun _ => Nat.le_refl _⟩, by simp⟩
  · intro n' B τ hI I1 hI1
    obtain ⟨b0, b1, k, b6, hk, hn', X', ph', v', w', hX', h', hq, hg⟩ := hI
    obtain ⟨d', v2, t', w2, u', nx', r', m', hnx⟩ := h'.ob
    simp only [za5, zca] at m'
    by_cases hlt : k < f.toNat
    · have hlt' : ((k : Int) < f) = True := eq_true (by omega)
      cases hd' : ph'.done with
      | true =>
        rw [hd'] at m'
        (try ((first | with_reducible refine zk ?_ | with_reducible refine zm ?_ | with_reducible refine zo ?_); simp [-cellOK, b0, b1, b6, m', hlt'])); repeat' (first | ((first | refine zd ?_ | refine zh ?_ | refine dN (by decide +kernel) ?_ | refine dC (by decide +kernel) ?_ | (refine za ?_ ?_ <;> (intro hg; simp only [hg])) | fail) <;> simp [-cellOK, b0, b1, b6, m', hlt']) | refine zg ?_ | refine zc ?_ | (refine zs ?_; simp only [zt]; try simp) | (refine zb (fun hc => ?_) (fun hc => ?_) <;> try simp at hc) | fail)
        rw [zlt _ hd'] at hg
        rw [hg] at hK
        refine zaF (.inr rfl) (x := .tup [.raw (.int .i64 k), .raw (.int .i64 0)]) (by simp) ?_
        have := hK τ v' w' h' hq
        simpa using this
      | false =>
        rw [hd'] at m'
        obtain ⟨fn, hfn⟩ := ph'.nx_fn ip
        have hnx := (hnx hd').trans hfn
        subst hnx
        have w1 : IntKind.i64.wrap ((k : Int) + 1) = ((k + 1 : Nat) : Int) := by rw [zU (by omega) (by omega)]; omega
        (try ((first | with_reducible refine zk ?_ | with_reducible refine zm ?_ | with_reducible refine zo ?_); simp [-cellOK, b0, b1, b6, m', hlt'])); repeat' (first | ((first | refine zd ?_ | refine zh ?_ | refine dN (by decide +kernel) ?_ | refine dC (by decide +kernel) ?_ | (refine za ?_ ?_ <;> (intro hg; simp only [hg])) | fail) <;> simp [-cellOK, b0, b1, b6, m', hlt']) | refine zg ?_ | refine zc ?_ | (refine zs ?_; simp only [zt]; try simp) | (refine zb (fun hc => ?_) (fun hc => ?_) <;> try simp at hc) | fail)
        refine zm6 hsz hX' hd' h' hfn fun τ2 v2 w2 h2 k2 => ?_
        (try ((first | with_reducible refine zk ?_ | with_reducible refine zm ?_ | with_reducible refine zo ?_); simp [-cellOK, b0, b1, b6, w1])); repeat' (first | ((first | refine zd ?_ | refine zh ?_ | refine dN (by decide +kernel) ?_ | refine dC (by decide +kernel) ?_ | (refine za ?_ ?_ <;> (intro hg; simp only [hg])) | fail) <;> simp [-cellOK, b0, b1, b6, w1]) | refine zg ?_ | refine zc ?_ | (refine zs ?_; simp only [zt]; try simp) | (refine zb (fun hc => ?_) (fun hc => ?_) <;> try simp at hc) | fail)
        refine hI1 (f.toNat - (k + 1)) _ _ (by omega) ⟨by simp [b0], by simp [b1], k + 1, by simp, by omega, rfl, _, _, v2, w2, hX'.step ph', h2, hq.trans k2, ?_⟩
        rw [hg, show f.toNat - k = (f.toNat - (k + 1)) + 1 by omega, goP, if_neg (by simp [hd'])]
        ext1
        · rfl
        · show _ + 1 + k = _ + (k + 1); omega
    · have hlt' : ((k : Int) < f) = False := eq_false (by omega)
      (try ((first | with_reducible refine zk ?_ | with_reducible refine zm ?_ | with_reducible refine zo ?_); simp [-cellOK, b0, b1, b6, m', hlt'])); repeat' (first | ((first | refine zd ?_ | refine zh ?_ | refine dN (by decide +kernel) ?_ | refine dC (by decide +kernel) ?_ | (refine za ?_ ?_ <;> (intro hg; simp only [hg])) | fail) <;> simp [-cellOK, b0, b1, b6, m', hlt']) | refine zg ?_ | refine zc ?_ | (refine zs ?_; simp only [zt]; try simp) | (refine zb (fun hc => ?_) (fun hc => ?_) <;> try simp at hc) | fail)
      rw [show f.toNat - k = 0 by omega] at hg
      simp only [goP] at hg
      rw [hg] at hK
      refine zaF (.inr rfl) (x := .tup [.raw (.int .i64 k), .raw (.int .i64 0)]) (by simp) ?_
      have := hK τ v' w' h' hq
      simpa using this
theorem zhV {ip : Id} {X : PB} {ph : Ph} {v w : AV} {σ : St} (h : PbR ip X ph v w σ) {f : Int} (hf : f < 1 ∨ ph.done = true) {K : AV → St → Prop}
    (hK : K (.tup [.raw (.int .i64 0), .raw (.int .i64 131)]) σ) :
    ACalls Tryz.prog 36 [.rp ip 0 0, .raw (.int .i64 f)] σ K := by
  obtain ⟨d, v1, t, w1, u, nx, r, m, hn⟩ := h.ob
  simp only [za5, zca] at m
  refine zcr Tryz.func36 rfl (N := 37) rfl rfl (by simp) ?_
  by_cases f1 : f < 1
  · have f1 := eq_true f1
    (try ((first | with_reducible refine zk ?_ | with_reducible refine zm ?_ | with_reducible refine zo ?_); simp [-cellOK, m, f1])); repeat' (first | ((first | refine zd ?_ | refine zh ?_ | refine dN (by decide +kernel) ?_ | refine dC (by decide +kernel) ?_ | (refine za ?_ ?_ <;> (intro hg; simp only [hg])) | fail) <;> simp [-cellOK, m, f1]) | refine zg ?_ | refine zc ?_ | (refine zs ?_; simp only [zt]; try simp) | (refine zb (fun hc => ?_) (fun hc => ?_) <;> try simp at hc) | fail)
    exact zaF (.inr rfl) (by simp) hK
  · have hd := hf.resolve_left f1
    rw [hd] at m
    have f1 := eq_false f1
    (try ((first | with_reducible refine zk ?_ | with_reducible refine zm ?_ | with_reducible refine zo ?_); simp [-cellOK, m, f1])); repeat' (first | ((first | refine zd ?_ | refine zh ?_ | refine dN (by decide +kernel) ?_ | refine dC (by decide +kernel) ?_ | (refine za ?_ ?_ <;> (intro hg; simp only [hg])) | fail) <;> simp [-cellOK, m, f1]) | refine zg ?_ | refine zc ?_ | (refine zs ?_; simp only [zt]; try simp) | (refine zb (fun hc => ?_) (fun hc => ?_) <;> try simp at hc) | fail)
    exact zaF (.inr rfl) (by simp) hK
end Go.Proofs.YtanimmdlgmkmkaaGreat.Av
namespace Go.Proofs.YtanimmdlgmkmkaaGreat.Av
open Go
set_option linter.unusedSimpArgs false
set_option linter.unusedVariables false
set_option maxRecDepth 100000
set_option maxHeartbeats 4000000
set_option pp.maxSteps 600
def zbz (n m : Nw) (q : Qy) : Bool := zaS n q && (!decide (q.kind = 5) || decide (n.t = m.t))
theorem zhW (n m : Nw) (f g : Fl) (q : Qy) (hn : NwOK n) (hm : NwOK m) : PCalls Tryz.prog 84 [z7 n f, z7 m g, zaH q] (.raw (.bool (zbz n m q))) := by
  have hr := zli n f q
  have hs := zjx n.t m.t f g (by have := hn.ports; omega) (by have := hn.links; omega) (by have := hm.ports; omega) (by have := hm.links; omega)
  refine zK Tryz.func84 rfl (N := 22) rfl rfl (by simp) (by simp [noIds]) fun σ => ?_
  repeat (refine zg ?_)
  refine zh ?_
  simp [-cellOK, zr, zv]
  generalize hA0 : put 22 _ _ _ = A0
  have d3 : A0 3 = .rp ⟨3, σ.nx 3, 3⟩ 0 0 := by rw [← hA0]; simp [ze]
  have d4 : A0 4 = .rp ⟨4, σ.nx 4, 3⟩ 0 0 := by rw [← hA0]; simp [ze]
  have d5 : A0 5 = .rp ⟨5, σ.nx 5, 7⟩ 0 0 := by rw [← hA0]; simp [ze]
  clear hA0
  refine zY ⟨3, σ.nx 3, 3⟩ ?_
  refine zY ⟨4, σ.nx 4, 3⟩ ?_
  refine zY ⟨5, σ.nx 5, 7⟩ ?_
  generalize hτ : St.del _ _ = τ
  generalize hA : (fun t => zD _ _ _) = A
  have a3 : A 3 = .pp (z7 n f).cells 0 := by rw [← hA, ← hτ]; simp [zD, St.new, St.del, zr, d3]
  have a4 : A 4 = .pp (z7 m g).cells 0 := by rw [← hA, ← hτ]; simp [zD, St.new, St.del, zr, d4]
  have a5 : A 5 = .pp (zaH q).cells 0 := by rw [← hA, ← hτ]; simp [zD, St.new, St.del, zr, zv, d5]
  have hE : Ext σ τ := by
    rw [← hτ]
    refine ⟨fun i o h => ?_, fun s => ?_⟩
    · have q1 : i ≠ ⟨3, σ.nx 3, 3⟩ := fun e => by rw [e, zf] at h; cases h
      have q2 : i ≠ ⟨4, σ.nx 4, 3⟩ := fun e => by rw [e, zf] at h; cases h
      have q3 : i ≠ ⟨5, σ.nx 5, 7⟩ := fun e => by rw [e, zf] at h; cases h
      simp [St.del, St.new, q1, q2, q3, h]
    · simp only [St.del, St.new]
      repeat' split
      all_goals omega
  clear hτ hA
  have htf : ∀ (N : Nw) (F : Fl), AV.agg [zq N.t.ports F.p, zy N.t.links F.l] = zaT N.t F := fun _ _ => rfl
  unfold zbz
  cases hrb : zaS n q with
  | false =>
    rw [hrb] at hr
    (try ((first | with_reducible refine zk ?_ | with_reducible refine zm ?_ | with_reducible refine zo ?_); simp [-cellOK, a3, a4, a5, zr, zC, zv, zB])); repeat' (first | ((first | refine zd ?_ | refine zh ?_ | refine dN (by decide +kernel) ?_ | refine dC (by decide +kernel) ?_ | refine uP (hr) ?_ | refine .inl ⟨_, .inl (hr), ?_⟩ | (refine za ?_ ?_ <;> (intro hg; simp only [hg])) | fail) <;> simp [-cellOK, a3, a4, a5, zr, zC, zv, zB]) | refine zg ?_ | refine zc ?_ | (refine zs ?_; simp only [zt]; try simp) | (refine zl (by simp) ?_; simp) | (refine zx (by simp) (by simp [noIds]) (by repeat (first | assumption | exact Ext.refl _ | refine zu ?_ | refine Ext.setF ?_ (by first | assumption | (simp [ze, St.set, zf]; done) | exact zp (by assumption)))) ?_; simp [-cellOK, a3, a4, a5, zr, zC, zv, zB, zL]) | (refine zb (fun hc => ?_) (fun hc => ?_) <;> try simp at hc) | fail)
  | true =>
    rw [hrb] at hr
    by_cases k5 : q.kind = 5
    · have k5' := eq_true k5
      (try ((first | with_reducible refine zk ?_ | with_reducible refine zm ?_ | with_reducible refine zo ?_); simp [-cellOK, a3, a4, a5, zr, zC, zv, zB, k5', htf])); repeat' (first | ((first | refine zd ?_ | refine zh ?_ | refine dN (by decide +kernel) ?_ | refine dC (by decide +kernel) ?_ | refine uP (hr) ?_ | refine .inl ⟨_, .inl (hr), ?_⟩ | refine uP (hs) ?_ | refine .inl ⟨_, .inl (hs), ?_⟩ | (refine za ?_ ?_ <;> (intro hg; simp only [hg])) | fail) <;> simp [-cellOK, a3, a4, a5, zr, zC, zv, zB, k5', htf]) | refine zg ?_ | refine zc ?_ | (refine zs ?_; simp only [zt]; try simp) | (refine zl (by simp) ?_; simp) | (refine zx (by simp) (by simp [noIds]) (by repeat (first | assumption | exact Ext.refl _ | refine zu ?_ | refine Ext.setF ?_ (by first | assumption | (simp [ze, St.set, zf]; done) | exact zp (by assumption)))) ?_; simp [-cellOK, a3, a4, a5, zr, zC, zv, zB, k5', htf, zL]) | (refine zb (fun hc => ?_) (fun hc => ?_) <;> try simp at hc) | fail)
    · have k5' := eq_false k5
      (try ((first | with_reducible refine zk ?_ | with_reducible refine zm ?_ | with_reducible refine zo ?_); simp [-cellOK, a3, a4, a5, zr, zC, zv, zB, k5', htf])); repeat' (first | ((first | refine zd ?_ | refine zh ?_ | refine dN (by decide +kernel) ?_ | refine dC (by decide +kernel) ?_ | refine uP (hr) ?_ | refine .inl ⟨_, .inl (hr), ?_⟩ | refine uP (hs) ?_ | refine .inl ⟨_, .inl (hs), ?_⟩ | (refine za ?_ ?_ <;> (intro hg; simp only [hg])) | fail) <;> simp [-cellOK, a3, a4, a5, zr, zC, zv, zB, k5', htf]) | refine zg ?_ | refine zc ?_ | (refine zs ?_; simp only [zt]; try simp) | (refine zl (by simp) ?_; simp) | (refine zx (by simp) (by simp [noIds]) (by repeat (first | assumption | exact Ext.refl _ | refine zu ?_ | refine Ext.setF ?_ (by first | assumption | (simp [ze, St.set, zf]; done) | exact zp (by assumption)))) ?_; simp [-cellOK, a3, a4, a5, zr, zC, zv, zB, k5', htf, zL]) | (refine zb (fun hc => ?_) (fun hc => ?_) <;> try simp at hc) | fail)
theorem zjd (n m : Nw) (f g : Fl) (q : Qy) (hn : NwOK n) (hm : NwOK m) (hq : RgOK q.r) :
    PCalls Tryz.prog 85 [z7 n f, z7 m g, zaH q] (zN (zbZ [n, if q.kind = 5 then m else n] q.r) false) := by
  refine zK Tryz.func85 rfl (N := 23) rfl rfl (by simp) (by simp [noIds]) fun σ => ?_
  repeat (refine zg ?_)
  refine zh ?_
  simp [-cellOK, zr, zv]
  generalize hA0 : put 23 _ _ _ = A0
  have d3 : A0 3 = .rp ⟨3, σ.nx 3, 3⟩ 0 0 := by rw [← hA0]; simp [ze]
  have d4 : A0 4 = .rp ⟨4, σ.nx 4, 3⟩ 0 0 := by rw [← hA0]; simp [ze]
  have d5 : A0 5 = .rp ⟨5, σ.nx 5, 7⟩ 0 0 := by rw [← hA0]; simp [ze]
  have d6 : A0 6 = .sl 0 [] true := by rw [← hA0]; simp [ze]
  clear hA0
  refine zY ⟨3, σ.nx 3, 3⟩ ?_
  refine zY ⟨5, σ.nx 5, 7⟩ ?_
  generalize hτ : St.del _ _ = τ
  generalize hA : (fun t => zD _ _ _) = A
  have a3 : A 3 = .pp (z7 n f).cells 0 := by rw [← hA, ← hτ]; simp [zD, St.new, St.del, zr, d3]
  have a4 : A 4 = .rp ⟨4, σ.nx 4, 3⟩ 0 0 := by rw [← hA, ← hτ]; simp [zD, St.new, St.del, zr, d4]
  have a5 : A 5 = .pp (zaH q).cells 0 := by rw [← hA, ← hτ]; simp [zD, St.new, St.del, zr, zv, d5]
  have m4 : τ.m ⟨4, σ.nx 4, 3⟩ = some (.buf [z7 m g]) := by rw [← hτ]; simp [St.new, St.del]
  have hE : Ext σ τ := by
    rw [← hτ]
    refine ⟨fun i o h => ?_, fun s => ?_⟩
    · have q1 : i ≠ ⟨3, σ.nx 3, 3⟩ := fun e => by rw [e, zf] at h; cases h
      have q2 : i ≠ ⟨4, σ.nx 4, 3⟩ := fun e => by rw [e, zf] at h; cases h
      have q3 : i ≠ ⟨5, σ.nx 5, 7⟩ := fun e => by rw [e, zf] at h; cases h
      simp [St.del, St.new, q1, q2, q3, h]
    · simp only [St.del, St.new]
      repeat' split
      all_goals omega
  clear hτ hA
  have f4 : σ.m ⟨4, σ.nx 4, 3⟩ = none := zf _ _ _
  have hrgf : AV.agg [.raw (.int .u32 q.r.lo), .raw (.int .u32 q.r.hi)] = zat q.r := rfl
  by_cases k5 : q.kind = 5
  · have hcut := zj2 [(n, f), (m, g)] false q.r hq (by simp [hn, hm]) (by simp)
    simp only [List.map_cons, List.map_nil] at hcut
    rw [if_pos k5]
    have k5' := eq_true k5
    (try ((first | with_reducible refine zk ?_ | with_reducible refine zm ?_ | with_reducible refine zo ?_); simp [-cellOK, a3, a4, a5, zr, zC, zv, zB, m4, k5'])); repeat' (first | ((first | refine zd ?_ | refine zh ?_ | refine dN (by decide +kernel) ?_ | refine dC (by decide +kernel) ?_ | (refine za ?_ ?_ <;> (intro hg; simp only [hg])) | fail) <;> simp [-cellOK, a3, a4, a5, zr, zC, zv, zB, m4, k5']) | refine zg ?_ | refine zc ?_ | (refine zs ?_; simp only [zt]; try simp) | (refine zb (fun hc => ?_) (fun hc => ?_) <;> try simp at hc) | fail)
    refine hcut.useFz (σ0 := σ) ⟨16, τ.nx 16, 3⟩ (zp hE) (by repeat (first | assumption | exact Ext.refl _ | refine zu ?_ | refine Ext.setF ?_ (by first | assumption | (simp [ze, St.set, zf]; done) | exact zp (by assumption)))) (by simp [zD, zz, za0, hrgf]; rfl) ?_
    intro τ2 hE2 hk2 _
    (try ((first | with_reducible refine zk ?_ | with_reducible refine zm ?_ | with_reducible refine zo ?_); simp [-cellOK, a3, a4, a5, zN])); repeat' (first | ((first | refine zd ?_ | refine zh ?_ | refine dN (by decide +kernel) ?_ | refine dC (by decide +kernel) ?_ | (refine za ?_ ?_ <;> (intro hg; simp only [hg])) | fail) <;> simp [-cellOK, a3, a4, a5, zN]) | refine zg ?_ | refine zc ?_ | (refine zs ?_; simp only [zt]; try simp) | (refine zl (by simp) ?_; simp) | (refine zx (by simp) (by simp [noIds]) (by repeat (first | assumption | exact Ext.refl _ | refine zu ?_ | refine Ext.setF ?_ (by first | assumption | (simp [ze, St.set, zf]; done) | exact zp (by assumption)))) ?_; simp [-cellOK, a3, a4, a5, zN, zL]) | (refine zb (fun hc => ?_) (fun hc => ?_) <;> try simp at hc) | fail)
  · have hcut := zj2 [(n, f), (n, f)] false q.r hq (by simp [hn]) (by simp)
    simp only [List.map_cons, List.map_nil] at hcut
    rw [if_neg k5]
    have k5' := eq_false k5
    have hnp : setPart (z7 m g) 0 [zq n.t.ports f.p, zy n.t.links f.l, zE n.rules f.r] = z7 n f := rfl
    (try ((first | with_reducible refine zk ?_ | with_reducible refine zm ?_ | with_reducible refine zo ?_); simp [-cellOK, a3, a4, a5, zr, zC, zv, zB, m4, k5', hnp, zA])); repeat' (first | ((first | refine zd ?_ | refine zh ?_ | refine dN (by decide +kernel) ?_ | refine dC (by decide +kernel) ?_ | (refine za ?_ ?_ <;> (intro hg; simp only [hg])) | fail) <;> simp [-cellOK, a3, a4, a5, zr, zC, zv, zB, m4, k5', hnp, zA]) | refine zg ?_ | refine zc ?_ | (refine zs ?_; simp only [zt]; try simp) | (refine zb (fun hc => ?_) (fun hc => ?_) <;> try simp at hc) | fail)
    refine hcut.useFz (σ0 := σ) ⟨16, τ.nx 16, 3⟩ (zp hE) (by repeat (first | assumption | exact Ext.refl _ | refine zu ?_ | refine Ext.setF ?_ (by first | assumption | (simp [ze, St.set, zf]; done) | exact zp (by assumption)))) (by simp [zD, zz, zA, m4, za0, hrgf]; rfl) ?_
    intro τ2 hE2 hk2 _
    (try ((first | with_reducible refine zk ?_ | with_reducible refine zm ?_ | with_reducible refine zo ?_); simp [-cellOK, a3, a4, a5, zN])); repeat' (first | ((first | refine zd ?_ | refine zh ?_ | refine dN (by decide +kernel) ?_ | refine dC (by decide +kernel) ?_ | (refine za ?_ ?_ <;> (intro hg; simp only [hg])) | fail) <;> simp [-cellOK, a3, a4, a5, zN]) | refine zg ?_ | refine zc ?_ | (refine zs ?_; simp only [zt]; try simp) | (refine zl (by simp) ?_; simp) | (refine zx (by simp) (by simp [noIds]) (by repeat (first | assumption | exact Ext.refl _ | refine zu ?_ | refine Ext.setF ?_ (by first | assumption | (simp [ze, St.set, zf]; done) | exact zp (by assumption)))) ?_; simp [-cellOK, a3, a4, a5, zN, zL]) | (refine zb (fun hc => ?_) (fun hc => ?_) <;> try simp at hc) | fail)
end Go.Proofs.YtanimmdlgmkmkaaGreat.Av
namespace Go.Proofs.YtanimmdlgmkmkaaGreat.Av
open Go
set_option linter.unusedSimpArgs false
set_option linter.unusedVariables false
set_option maxRecDepth 100000
set_option maxHeartbeats 4000000
set_option pp.maxSteps 600
theorem Ex.toExt {ip : Id} {σ τ : St} (h : Ex ip σ τ) (n : σ.m ip = none) : Ext σ τ := ⟨fun i o e => h.1 i o (fun q => by rw [q, n] at e; cases e) e, h.2⟩
theorem zj7 (l : List Rg) (f : Bool) : (zN l f).cells = [zN l f] := rfl
def zaf (n m : Nw) (q : Qy) : List Rg := zbZ [n, if q.kind = 5 then m else n] q.r
def pb0 (n m : Nw) (f g : Fl) (q : Qy) : PB := ⟨n, m, f, g, q, zX n q, zaf n m q, zaf n m q⟩
theorem zgu (n m : Nw) (f g : Fl) (q : Qy) (hn : NwOK n) (hm : NwOK m) (hq : RgOK q.r) {σ : St} {K : AV → St → Prop}
    (hK0 : zbz n m q = false → ∀ τ, Ext σ τ → K (.tup [.raw (.pointer none), .raw (.int .i64 121)]) τ)
    (hS : zbz n m q = true → ∃ s ss, zX n q = s :: ss) (hP : zbz n m q = true → ∃ r rs, zaf n m q = r :: rs)
    (hK1 : ∀ s ss, zbz n m q = true → zX n q = s :: ss → ∀ τ ip, ip.sz = 34 → σ.m ip = none → PbR ip (pb0 n m f g q) (.one [] s) zaJ zaJ τ → Ext σ τ → K (.tup [.rp ip 0 0, .raw (.int .i64 0)]) τ) :
    ACalls Tryz.prog 30 [z7 n f, z7 m g, zaH q] σ K := by
  have ha := zhW n m f g q hn hm
  have hso := zgE n f q hn.ports
  have hcu : PCalls Tryz.prog 85 [z7 n f, z7 m g, zaH q] (zN (zaf n m q) false) := zjd n m f g q hn hm hq
  refine zcr Tryz.func30 rfl (N := 36) rfl rfl (by simp) ?_
  repeat (refine zg ?_)
  refine zh ?_
  simp [-cellOK, zr, zv]
  generalize hA0 : put 36 _ _ _ = A0
  have d3 : A0 3 = .rp ⟨3, σ.nx 3, 3⟩ 0 0 := by rw [← hA0]; simp [ze]
  have d4 : A0 4 = .rp ⟨4, σ.nx 4, 3⟩ 0 0 := by rw [← hA0]; simp [ze]
  have d5 : A0 5 = .rp ⟨5, σ.nx 5, 7⟩ 0 0 := by rw [← hA0]; simp [ze]
  clear hA0
  refine zY ⟨3, σ.nx 3, 3⟩ ?_
  refine zY ⟨4, σ.nx 4, 3⟩ ?_
  refine zY ⟨5, σ.nx 5, 7⟩ ?_
  generalize hτ : St.del _ _ = τ
  generalize hA : (fun t => zD _ _ _) = A
  have a3 : A 3 = .pp (z7 n f).cells 0 := by rw [← hA, ← hτ]; simp [zD, St.new, St.del, zr, d3]
  have a4 : A 4 = .pp (z7 m g).cells 0 := by rw [← hA, ← hτ]; simp [zD, St.new, St.del, zr, d4]
  have a5 : A 5 = .pp (zaH q).cells 0 := by rw [← hA, ← hτ]; simp [zD, St.new, St.del, zr, zv, d5]
  have hE : Ext σ τ := by
    rw [← hτ]
    refine ⟨fun i o h => ?_, fun s => ?_⟩
    · have q1 : i ≠ ⟨3, σ.nx 3, 3⟩ := fun e => by rw [e, zf] at h; cases h
      have q2 : i ≠ ⟨4, σ.nx 4, 3⟩ := fun e => by rw [e, zf] at h; cases h
      have q3 : i ≠ ⟨5, σ.nx 5, 7⟩ := fun e => by rw [e, zf] at h; cases h
      simp [St.del, St.new, q1, q2, q3, h]
    · simp only [St.del, St.new]
      repeat' split
      all_goals omega
  clear hτ hA
  cases hab : zbz n m q with
  | false =>
    rw [hab] at ha
    (try ((first | with_reducible refine zk ?_ | with_reducible refine zm ?_ | with_reducible refine zo ?_); simp [-cellOK, a3, a4, a5, zr, zC, zv, zB])); repeat' (first | ((first | refine zd ?_ | refine zh ?_ | refine dN (by decide +kernel) ?_ | refine dC (by decide +kernel) ?_ | refine uP (ha) ?_ | refine .inl ⟨_, .inl (ha), ?_⟩ | (refine za ?_ ?_ <;> (intro hg; simp only [hg])) | fail) <;> simp [-cellOK, a3, a4, a5, zr, zC, zv, zB]) | refine zg ?_ | refine zc ?_ | (refine zs ?_; simp only [zt]; try simp) | (refine zb (fun hc => ?_) (fun hc => ?_) <;> try simp at hc) | fail)
    exact zaF (.inr rfl) (by simp) (hK0 hab _ hE)
  | true =>
    rw [hab] at ha
    obtain ⟨s, ss, hs⟩ := hS hab
    obtain ⟨r, rs, hp⟩ := hP hab
    have ko : ∀ l : List Rg, cellOK (zN l false) = true := fun _ => rfl
    have ki : ∀ l : List Int, cellOK (zq l false) = true := fun _ => rfl
    (try ((first | with_reducible refine zk ?_ | with_reducible refine zm ?_ | with_reducible refine zo ?_); simp [-cellOK, a3, a4, a5, zr, zC, zv, zB, zi6, zj7, ko, ki, zA, zz])); repeat' (first | ((first | refine zd ?_ | refine zh ?_ | refine dN (by decide +kernel) ?_ | refine dC (by decide +kernel) ?_ | refine uP (ha) ?_ | refine .inl ⟨_, .inl (ha), ?_⟩ | refine uP (hso) ?_ | refine .inl ⟨_, .inl (hso), ?_⟩ | refine uP (hcu) ?_ | refine .inl ⟨_, .inl (hcu), ?_⟩ | (refine za ?_ ?_ <;> (intro hg; simp only [hg])) | fail) <;> simp [-cellOK, a3, a4, a5, zr, zC, zv, zB, zi6, zj7, ko, ki, zA, zz]) | refine zg ?_ | refine zc ?_ | (refine zs ?_; simp only [zt]; try simp) | (refine zb (fun hc => ?_) (fun hc => ?_) <;> try simp at hc) | fail)
    have f25 : τ.m ⟨25, τ.nx 25, 34⟩ = none := zf _ _ _
    generalize hσ1 : St.set _ _ _ = σ1
    have m1 : σ1.m ⟨25, τ.nx 25, 34⟩ = some (za5 (pb0 n m f g q) 0 zaJ z0 zaJ z0 (.raw .nilFunc) false vc0) := by rw [← hσ1]; simp [zA, zz, za5, zca, pb0, zaJ, z0, vc0]
    have hX1 : Ex ⟨25, τ.nx 25, 34⟩ τ σ1 := by rw [← hσ1]; exact ((Ex.refl _ _).new _ _ _).set _
    clear hσ1
    refine zfx rfl m1 (s := s) (ss := ss) hs fun τ2 mτ hX2 => ?_
    (try ((first | with_reducible refine zk ?_ | with_reducible refine zm ?_ | with_reducible refine zo ?_); simp [-cellOK])); repeat' (first | ((first | refine zd ?_ | refine zh ?_ | refine dN (by decide +kernel) ?_ | refine dC (by decide +kernel) ?_ | (refine za ?_ ?_ <;> (intro hg; simp only [hg])) | fail) <;> simp [-cellOK]) | refine zg ?_ | refine zc ?_ | (refine zs ?_; simp only [zt]; try simp) | (refine zb (fun hc => ?_) (fun hc => ?_) <;> try simp at hc) | fail)
    exact zaF (x := .tup [.rp ⟨25, τ.nx 25, 34⟩ 0 0, .raw (.int .i64 0)]) (.inr rfl) (by simp) (hK1 s ss hab hs τ2 _ rfl (zp hE) ⟨rfl, zeQ _, s, ss, r, rs, 0, hs, hp, Way.start _ _ _, mτ⟩ (hE.trans ((hX1.trans hX2).toExt f25)))
def zdY (n m : Nw) (q : Qy) : Int := if zbz n m q = true then (if q.kind = 5 then (zX n q).length * (zaf n m q).length * (n.t.ports.length + 1) * 2 else (zX n q).length * (zaf n m q).length * (n.t.ports.length + 1)) else 0
theorem zlu (n m : Nw) (f g : Fl) (q : Qy) (hn : NwOK n) (hm : NwOK m) (hq : RgOK q.r) (h1 : (zX n q).length ≤ 1000) (h2 : (zaf n m q).length ≤ 1001) (h3 : n.t.ports.length ≤ 1000) :
    PCalls Tryz.prog 31 [z7 n f, z7 m g, zaH q] (.raw (.int .i64 (zdY n m q))) := by
  have ha := zhW n m f g q hn hm
  have hso := zgE n f q hn.ports
  have hcu : PCalls Tryz.prog 85 [z7 n f, z7 m g, zaH q] (zN (zaf n m q) false) := zjd n m f g q hn hm hq
  have b1 : (((zX n q).length : Int) * (zaf n m q).length) ≤ 1001000 := by
    have := Int.mul_le_mul (show ((zX n q).length : Int) ≤ 1000 by omega) (show ((zaf n m q).length : Int) ≤ 1001 by omega) (by omega) (by omega)
    omega
  have b2 : 0 ≤ (((zX n q).length : Int) * (zaf n m q).length) := Int.mul_nonneg (by omega) (by omega)
  have b3 : (((zX n q).length : Int) * (zaf n m q).length) * (n.t.ports.length + 1) ≤ 1001000 * 1001 := by
    have := Int.mul_le_mul b1 (show ((n.t.ports.length : Int) + 1) ≤ 1001 by omega) (by omega) (by omega)
    exact this
  have b4 : 0 ≤ (((zX n q).length : Int) * (zaf n m q).length) * (n.t.ports.length + 1) := Int.mul_nonneg b2 (by omega)
  have w1 : IntKind.i64.wrap (((zX n q).length : Int) * (zaf n m q).length) = ((zX n q).length : Int) * (zaf n m q).length := zU (by omega) (by omega)
  have w2 : IntKind.i64.wrap ((n.t.ports.length : Int) + 1) = (n.t.ports.length : Int) + 1 := zU (by omega) (by omega)
  have w3 : IntKind.i64.wrap (((zX n q).length : Int) * (zaf n m q).length * ((n.t.ports.length : Int) + 1)) = ((zX n q).length : Int) * (zaf n m q).length * ((n.t.ports.length : Int) + 1) := zU (by omega) (by omega)
  have w4 : IntKind.i64.wrap (((zX n q).length : Int) * (zaf n m q).length * ((n.t.ports.length : Int) + 1) * 2) = ((zX n q).length : Int) * (zaf n m q).length * ((n.t.ports.length : Int) + 1) * 2 := zU (by omega) (by omega)
  refine zK Tryz.func31 rfl (N := 35) rfl rfl (by simp) (by simp [noIds]) fun σ => ?_
  repeat (refine zg ?_)
  refine zh ?_
  simp [-cellOK, zr, zv]
  generalize hA0 : put 35 _ _ _ = A0
  have d3 : A0 3 = .rp ⟨3, σ.nx 3, 3⟩ 0 0 := by rw [← hA0]; simp [ze]
  have d4 : A0 4 = .rp ⟨4, σ.nx 4, 3⟩ 0 0 := by rw [← hA0]; simp [ze]
  have d5 : A0 5 = .rp ⟨5, σ.nx 5, 7⟩ 0 0 := by rw [← hA0]; simp [ze]
  clear hA0
  refine zY ⟨3, σ.nx 3, 3⟩ ?_
  refine zY ⟨4, σ.nx 4, 3⟩ ?_
  refine zY ⟨5, σ.nx 5, 7⟩ ?_
  generalize hτ : St.del _ _ = τ
  generalize hA : (fun t => zD _ _ _) = A
  have a3 : A 3 = .pp (z7 n f).cells 0 := by rw [← hA, ← hτ]; simp [zD, St.new, St.del, zr, d3]
  have a4 : A 4 = .pp (z7 m g).cells 0 := by rw [← hA, ← hτ]; simp [zD, St.new, St.del, zr, d4]
  have a5 : A 5 = .pp (zaH q).cells 0 := by rw [← hA, ← hτ]; simp [zD, St.new, St.del, zr, zv, d5]
  have hE : Ext σ τ := by
    rw [← hτ]
    refine ⟨fun i o h => ?_, fun s => ?_⟩
    · have q1 : i ≠ ⟨3, σ.nx 3, 3⟩ := fun e => by rw [e, zf] at h; cases h
      have q2 : i ≠ ⟨4, σ.nx 4, 3⟩ := fun e => by rw [e, zf] at h; cases h
      have q3 : i ≠ ⟨5, σ.nx 5, 7⟩ := fun e => by rw [e, zf] at h; cases h
      simp [St.del, St.new, q1, q2, q3, h]
    · simp only [St.del, St.new]
      repeat' split
      all_goals omega
  clear hτ hA
  unfold zdY
  cases hab : zbz n m q with
  | false =>
    rw [hab] at ha
    (try ((first | with_reducible refine zk ?_ | with_reducible refine zm ?_ | with_reducible refine zo ?_); simp [-cellOK, a3, a4, a5, zr, zC, zv, zB])); repeat' (first | ((first | refine zd ?_ | refine zh ?_ | refine dN (by decide +kernel) ?_ | refine dC (by decide +kernel) ?_ | refine uP (ha) ?_ | refine .inl ⟨_, .inl (ha), ?_⟩ | (refine za ?_ ?_ <;> (intro hg; simp only [hg])) | fail) <;> simp [-cellOK, a3, a4, a5, zr, zC, zv, zB]) | refine zg ?_ | refine zc ?_ | (refine zs ?_; simp only [zt]; try simp) | (refine zl (by simp) ?_; simp) | (refine zx (by simp) (by simp [noIds]) (by repeat (first | assumption | exact Ext.refl _ | refine zu ?_ | refine Ext.setF ?_ (by first | assumption | (simp [ze, St.set, zf]; done) | exact zp (by assumption)))) ?_; simp [-cellOK, a3, a4, a5, zr, zC, zv, zB, zL]) | (refine zb (fun hc => ?_) (fun hc => ?_) <;> try simp at hc) | fail)
  | true =>
    rw [hab] at ha
    by_cases k5 : q.kind = 5
    · have k5' := eq_true k5
      (try ((first | with_reducible refine zk ?_ | with_reducible refine zm ?_ | with_reducible refine zo ?_); simp [-cellOK, a3, a4, a5, zr, zC, zv, zB, k5', w1, w2, w3, w4, zN, zq])); repeat' (first | ((first | refine zd ?_ | refine zh ?_ | refine dN (by decide +kernel) ?_ | refine dC (by decide +kernel) ?_ | refine uP (ha) ?_ | refine .inl ⟨_, .inl (ha), ?_⟩ | refine uP (hso) ?_ | refine .inl ⟨_, .inl (hso), ?_⟩ | refine uP (hcu) ?_ | refine .inl ⟨_, .inl (hcu), ?_⟩ | (refine za ?_ ?_ <;> (intro hg; simp only [hg])) | fail) <;> simp [-cellOK, a3, a4, a5, zr, zC, zv, zB, k5', w1, w2, w3, w4, zN, zq]) | refine zg ?_ | refine zc ?_ | (refine zs ?_; simp only [zt]; try simp) | (refine zl (by simp) ?_; simp) | (refine zx (by simp) (by simp [noIds]) (by repeat (first | assumption | exact Ext.refl _ | refine zu ?_ | refine Ext.setF ?_ (by first | assumption | (simp [ze, St.set, zf]; done) | exact zp (by assumption)))) ?_; simp [-cellOK, a3, a4, a5, zr, zC, zv, zB, k5', w1, w2, w3, w4, zN, zq, zL]) | (refine zb (fun hc => ?_) (fun hc => ?_) <;> try simp at hc) | fail)
    · have k5' := eq_false k5
      (try ((first | with_reducible refine zk ?_ | with_reducible refine zm ?_ | with_reducible refine zo ?_); simp [-cellOK, a3, a4, a5, zr, zC, zv, zB, k5', w1, w2, w3, w4, zN, zq])); repeat' (first | ((first | refine zd ?_ | refine zh ?_ | refine dN (by decide +kernel) ?_ | refine dC (by decide +kernel) ?_ | refine uP (ha) ?_ | refine .inl ⟨_, .inl (ha), ?_⟩ | refine uP (hso) ?_ | refine .inl ⟨_, .inl (hso), ?_⟩ | refine uP (hcu) ?_ | refine .inl ⟨_, .inl (hcu), ?_⟩ | (refine za ?_ ?_ <;> (intro hg; simp only [hg])) | fail) <;> simp [-cellOK, a3, a4, a5, zr, zC, zv, zB, k5', w1, w2, w3, w4, zN, zq]) | refine zg ?_ | refine zc ?_ | (refine zs ?_; simp only [zt]; try simp) | (refine zl (by simp) ?_; simp) | (refine zx (by simp) (by simp [noIds]) (by repeat (first | assumption | exact Ext.refl _ | refine zu ?_ | refine Ext.setF ?_ (by first | assumption | (simp [ze, St.set, zf]; done) | exact zp (by assumption)))) ?_; simp [-cellOK, a3, a4, a5, zr, zC, zv, zB, k5', w1, w2, w3, w4, zN, zq, zL]) | (refine zb (fun hc => ?_) (fun hc => ?_) <;> try simp at hc) | fail)
end Go.Proofs.YtanimmdlgmkmkaaGreat.Av
namespace Go.Proofs.YtanimmdlgmkmkaaGreat.Av
open Go
set_option linter.unusedSimpArgs false
set_option linter.unusedVariables false
set_option maxRecDepth 100000
inductive Ends : PB → Ph → Vd → Nat → Prop
  | fin (X : PB) (V : Vd) : Ends X (.fin V) V 0
  | step {X : PB} {ph : Ph} {V : Vd} {T : Nat} : ph.done = false → Ends (zbM X ph).1 (zbM X ph).2 V T → Ends X ph V (T + 1)
theorem Ends.cast {X : PB} {ph : Ph} {V : Vd} {T T' : Nat} (h : Ends X ph V T) (e : T = T') : Ends X ph V T' := e ▸ h
theorem Ends.done {X : PB} {ph : Ph} {V : Vd} (h : Ends X ph V 0) : ph = .fin V := by cases h; rfl
theorem Ends.not {X : PB} {ph : Ph} {V : Vd} {T : Nat} (h : Ends X ph V (T + 1)) : ph.done = false := by cases h; assumption
theorem Ends.go {X : PB} {ph : Ph} {V : Vd} {T : Nat} (h : Ends X ph V T) (k : Nat) : (goP k X ph).2 = min k T ∧ Ends (goP k X ph).1.1 (goP k X ph).1.2 V (T - k) := by
  induction k generalizing X ph T with
  | zero => exact ⟨by simp [goP], h⟩
  | succ k ih =>
    cases T with
    | zero =>
      have := h.done; subst this
      rw [zlt (k + 1) rfl]
      exact ⟨by simp, by simpa using h⟩
    | succ T =>
      cases h with
      | step hd hs =>
        rw [goP, if_neg (by simp [hd])]
        obtain ⟨h1, h2⟩ := ih hs
        refine ⟨?_, ?_⟩
        · show _ + 1 = _; rw [h1]; omega
        · exact h2.cast (by omega)
theorem Way.lt {n : Nw} {a d0 : Int} : ∀ (k : Nat) {d : Int} {p : List Int}, Way n a d0 d p → 1 + 2 * n.t.links.length - p.length = k → p.length < (zaa n d0 a).path.length := by
  intro k
  induction k with
  | zero =>
    intro d p h hk
    have hl := h.len
    by_cases hd : d ∈ p
    · rw [h.again hd]; simp
    · by_cases h4 : (zZ n d a).1 = 4
      · have := (h.on hd h4).len
        simp only [List.length_append, List.length_singleton] at this; omega
      · rw [h.fin hd h4]; simp
  | succ k ih =>
    intro d p h hk
    by_cases hd : d ∈ p
    · rw [h.again hd]; simp
    · by_cases h4 : (zZ n d a).1 = 4
      · have := ih (h.on hd h4) (by simp only [List.length_append, List.length_singleton]; omega)
        simp only [List.length_append, List.length_singleton] at this; omega
      · rw [h.fin hd h4]; simp
theorem zlv {X : PB} {s : Int} {ss : List Int} {r : Rg} {rs : List Rg} (hS : X.S = s :: ss) (hP : X.P = r :: rs) {V : Vd} {T : Nat} {Y : PB × Ph}
    (hY : Y = if X.q.kind = 5 then (X, .two [] s) else zbF X (zaa X.N s r.lo) zc2) (hE : Ends Y.1 Y.2 V T) : ∀ (k : Nat) {d : Int} {p : List Int}, Way X.N r.lo s d p → 1 + 2 * X.N.t.links.length - p.length = k →
    Ends X (.one p d) V (T + ((zaa X.N s r.lo).path.length - p.length)) := by
  intro k
  induction k with
  | zero =>
    intro d p h hk
    have hl := h.len
    have hlt := h.lt _ rfl
    by_cases he : d ∈ p ∨ (zZ X.N d r.lo).1 ≠ 4
    · have e1 : (zaa X.N s r.lo).path.length = p.length + 1 := by
        by_cases hd : d ∈ p
        · rw [h.again hd]; simp
        · rw [h.fin hd (he.resolve_left hd)]; simp
      refine (Ends.step (T := T) rfl ?_).cast (by omega)
      simp only [zbM, hS, hP, if_pos he]
      rw [← hY]; exact hE
    · have hd : d ∉ p := fun q => he (.inl q)
      have h4 : (zZ X.N d r.lo).1 = 4 := Classical.byContradiction fun q => he (.inr q)
      have := (h.on hd h4).len
      simp only [List.length_append, List.length_singleton] at this; omega
  | succ k ih =>
    intro d p h hk
    have hlt := h.lt _ rfl
    by_cases he : d ∈ p ∨ (zZ X.N d r.lo).1 ≠ 4
    · have e1 : (zaa X.N s r.lo).path.length = p.length + 1 := by
        by_cases hd : d ∈ p
        · rw [h.again hd]; simp
        · rw [h.fin hd (he.resolve_left hd)]; simp
      refine (Ends.step (T := T) rfl ?_).cast (by omega)
      simp only [zbM, hS, hP, if_pos he]
      rw [← hY]; exact hE
    · have hd : d ∉ p := fun q => he (.inl q)
      have h4 : (zZ X.N d r.lo).1 = 4 := Classical.byContradiction fun q => he (.inr q)
      have h2 := ih (h.on hd h4) (by simp only [List.length_append, List.length_singleton]; omega)
      have hlt2 := (h.on hd h4).lt _ rfl
      simp only [List.length_append, List.length_singleton] at h2 hlt2
      refine (Ends.step (T := T + ((zaa X.N s r.lo).path.length - (p.length + 1))) rfl ?_).cast (by omega)
      simp only [zbM, hS, hP, if_neg he]
      exact h2
theorem zoD {X : PB} {s : Int} {ss : List Int} {r : Rg} {rs : List Rg} (hS : X.S = s :: ss) (hP : X.P = r :: rs) {V : Vd} {T : Nat}
    (hE : Ends (zbF X (zaa X.N s r.lo) (zaa X.M s r.lo)).1 (zbF X (zaa X.N s r.lo) (zaa X.M s r.lo)).2 V T) : ∀ (k : Nat) {d : Int} {p : List Int}, Way X.M r.lo s d p → 1 + 2 * X.M.t.links.length - p.length = k →
    Ends X (.two p d) V (T + ((zaa X.M s r.lo).path.length - p.length)) := by
  intro k
  induction k with
  | zero =>
    intro d p h hk
    have hl := h.len
    have hlt := h.lt _ rfl
    by_cases he : d ∈ p ∨ (zZ X.M d r.lo).1 ≠ 4
    · have e1 : (zaa X.M s r.lo).path.length = p.length + 1 := by
        by_cases hd : d ∈ p
        · rw [h.again hd]; simp
        · rw [h.fin hd (he.resolve_left hd)]; simp
      refine (Ends.step (T := T) rfl ?_).cast (by omega)
      simp only [zbM, hS, hP, if_pos he]
      exact hE
    · have hd : d ∉ p := fun q => he (.inl q)
      have h4 : (zZ X.M d r.lo).1 = 4 := Classical.byContradiction fun q => he (.inr q)
      have := (h.on hd h4).len
      simp only [List.length_append, List.length_singleton] at this; omega
  | succ k ih =>
    intro d p h hk
    have hlt := h.lt _ rfl
    by_cases he : d ∈ p ∨ (zZ X.M d r.lo).1 ≠ 4
    · have e1 : (zaa X.M s r.lo).path.length = p.length + 1 := by
        by_cases hd : d ∈ p
        · rw [h.again hd]; simp
        · rw [h.fin hd (he.resolve_left hd)]; simp
      refine (Ends.step (T := T) rfl ?_).cast (by omega)
      simp only [zbM, hS, hP, if_pos he]
      exact hE
    · have hd : d ∉ p := fun q => he (.inl q)
      have h4 : (zZ X.M d r.lo).1 = 4 := Classical.byContradiction fun q => he (.inr q)
      have h2 := ih (h.on hd h4) (by simp only [List.length_append, List.length_singleton]; omega)
      have hlt2 := (h.on hd h4).lt _ rfl
      simp only [List.length_append, List.length_singleton] at h2 hlt2
      refine (Ends.step (T := T + ((zaa X.M s r.lo).path.length - (p.length + 1))) rfl ?_).cast (by omega)
      simp only [zbM, hS, hP, if_neg he]
      exact h2
def uOf (M : Nw) (q : Qy) (s a : Int) : Tk := if q.kind = 5 then zaa M s a else zc2
def zbU (N M : Nw) (q : Qy) (s a : Int) : Nat := (zaa N s a).path.length + (if q.kind = 5 then (zaa M s a).path.length else 0)
theorem zbI {X : PB} {s : Int} {ss : List Int} {r : Rg} {rs : List Rg} (hS : X.S = s :: ss) (hP : X.P = r :: rs) {V : Vd} {T : Nat}
    (hE : Ends (zbF X (zaa X.N s r.lo) (uOf X.M X.q s r.lo)).1 (zbF X (zaa X.N s r.lo) (uOf X.M X.q s r.lo)).2 V T) : Ends X (.one [] s) V (T + zbU X.N X.M X.q s r.lo) := by
  unfold uOf at hE
  unfold zbU
  by_cases k5 : X.q.kind = 5
  · rw [if_pos k5] at hE
    have h2 := zoD hS hP hE _ (Way.start _ _ _) rfl
    have h1 := zlv hS hP (Y := (X, .two [] s)) (by rw [if_pos k5]) h2 _ (Way.start _ _ _) rfl
    rw [if_pos k5]
    exact h1.cast (by simp only [List.length_nil]; omega)
  · rw [if_neg k5] at hE
    have h1 := zlv hS hP (by rw [if_neg k5]) hE _ (Way.start _ _ _) rfl
    rw [if_neg k5]
    exact h1.cast (by simp only [List.length_nil]; omega)
theorem zlw (N M : Nw) (q : Qy) (s a : Int) : 1 ≤ zbU N M q s a := by
  have := (Way.start N a s).lt _ rfl
  unfold zbU
  simp only [List.length_nil] at this; omega
def zbp (N M : Nw) (q : Qy) (s : Int) : List Rg → Option Vd
  | [] => none
  | r :: rs => if zaz q (zaa N s r.lo) (uOf M q s r.lo) = true then some ⟨false, s, r.lo, zaa N s r.lo⟩ else zbp N M q s rs
def zc3 (N M : Nw) (q : Qy) (A : List Rg) : List Int → Option Vd
  | [] => none
  | s :: ss => match zbp N M q s A with
    | some v => some v
    | none => zc3 N M q A ss
def zjE : Vd := ⟨true, 0, 0, zc2⟩
theorem zoE {X : PB} {C : Nat} (hA : X.A ≠ []) (hC : ∀ s ∈ X.S, ∀ a, zbU X.N X.M X.q s a ≤ C) : ∀ (ss : List Int) (s : Int) (P : List Rg), P ≠ [] → s ∈ X.S → (∀ s' ∈ ss, s' ∈ X.S) →
    ∃ T, Ends { X with S := s :: ss, P := P } (.one [] s) ((zbp X.N X.M X.q s P).getD ((zc3 X.N X.M X.q X.A ss).getD zjE)) T ∧ 1 ≤ T ∧ T ≤ (P.length + ss.length * X.A.length) * C := by
  intro ss
  induction ss with
  | nil =>
    intro s P
    induction P with
    | nil => intro h; exact absurd rfl h
    | cons r P ih =>
      intro _ hs hss
      have hc := hC s hs r.lo
      have h1 := zlw X.N X.M X.q s r.lo
      simp only [zbp]
      by_cases hb : zaz X.q (zaa X.N s r.lo) (uOf X.M X.q s r.lo) = true
      · refine ⟨0 + zbU X.N X.M X.q s r.lo, zbI (s := s) (ss := []) (r := r) (rs := P) rfl rfl ?_, by omega, ?_⟩
        · simp only [zbF, if_pos hb]
          exact .fin _ _
        · simp only [List.length_cons, List.length_nil, Nat.zero_mul, Nat.add_zero, Nat.add_mul, Nat.one_mul]; omega
      · rw [if_neg hb]
        cases P with
        | nil =>
          refine ⟨0 + zbU X.N X.M X.q s r.lo, zbI (s := s) (ss := []) (r := r) (rs := []) rfl rfl ?_, by omega, ?_⟩
          · simp only [zbF, if_neg hb]
            exact .fin _ _
          · simp only [List.length_cons, List.length_nil, Nat.zero_mul, Nat.add_zero, Nat.add_mul, Nat.one_mul]; omega
        | cons r' P =>
          obtain ⟨T, h2, h3, h4⟩ := ih (by simp) hs hss
          refine ⟨T + zbU X.N X.M X.q s r.lo, zbI (s := s) (ss := []) (r := r) (rs := r' :: P) rfl rfl ?_, by omega, ?_⟩
          · simp only [zbF, if_neg hb]
            exact h2
          · simp only [List.length_cons, List.length_nil, Nat.zero_mul, Nat.add_zero, Nat.add_mul, Nat.one_mul] at h4 ⊢; omega
  | cons s' ss ihs =>
    intro s P
    induction P with
    | nil => intro h; exact absurd rfl h
    | cons r P ih =>
      intro _ hs hss
      have hc := hC s hs r.lo
      have h1 := zlw X.N X.M X.q s r.lo
      simp only [zbp]
      by_cases hb : zaz X.q (zaa X.N s r.lo) (uOf X.M X.q s r.lo) = true
      · refine ⟨0 + zbU X.N X.M X.q s r.lo, zbI (s := s) (ss := s' :: ss) (r := r) (rs := P) rfl rfl ?_, by omega, ?_⟩
        · simp only [zbF, if_pos hb]
          exact .fin _ _
        · simp only [List.length_cons, Nat.add_mul, Nat.one_mul]; omega
      · rw [if_neg hb]
        cases P with
        | nil =>
          obtain ⟨T, h2, h3, h4⟩ := ihs s' X.A hA (hss s' (by simp)) fun x hx => hss x (by simp [hx])
          refine ⟨T + zbU X.N X.M X.q s r.lo, zbI (s := s) (ss := s' :: ss) (r := r) (rs := []) rfl rfl ?_, by omega, ?_⟩
          · simp only [zbF, if_neg hb]
            have e : (zbp X.N X.M X.q s []).getD ((zc3 X.N X.M X.q X.A (s' :: ss)).getD zjE) = (zbp X.N X.M X.q s' X.A).getD ((zc3 X.N X.M X.q X.A ss).getD zjE) := by
              simp only [zbp, zc3]
              cases zbp X.N X.M X.q s' X.A <;> rfl
            have e2 : zbp X.N X.M X.q s [] = none := rfl
            rw [e2] at e
            first | exact e ▸ h2 | (rw [e]; exact h2) | (rw [e2, e]; exact h2)
          · simp only [List.length_cons, List.length_nil, Nat.add_mul, Nat.one_mul] at h4 ⊢; omega
        | cons r' P =>
          obtain ⟨T, h2, h3, h4⟩ := ih (by simp) hs hss
          refine ⟨T + zbU X.N X.M X.q s r.lo, zbI (s := s) (ss := s' :: ss) (r := r) (rs := r' :: P) rfl rfl ?_, by omega, ?_⟩
          · simp only [zbF, if_neg hb]
            exact h2
          · simp only [List.length_cons, Nat.add_mul, Nat.one_mul] at h4 ⊢; omega
end Go.Proofs.YtanimmdlgmkmkaaGreat.Av
namespace Go.Proofs.YtanimmdlgmkmkaaGreat.Av
open Go
set_option linter.unusedSimpArgs false
set_option linter.unusedVariables false
set_option maxRecDepth 100000
theorem zhh {n m : Nw} {q : Qy} : zbz n m q = true ↔ RightQ n q ∧ (q.kind = 5 → n.t = m.t) := by
  unfold zbz
  rw [Bool.and_eq_true, zgt]
  simp only [Bool.or_eq_true, Bool.not_eq_true', decide_eq_false_iff_not, decide_eq_true_eq]
  constructor
  · rintro ⟨h, h1 | h1⟩
    · exact ⟨h, fun k => absurd k h1⟩
    · exact ⟨h, fun _ => h1⟩
  · rintro ⟨h, h1⟩
    refine ⟨h, ?_⟩
    by_cases k : q.kind = 5
    · exact .inr (h1 k)
    · exact .inl k
theorem znR {n m : Nw} {q : Qy} (ht : q.kind = 5 → n.t = m.t) {s : Int} (hs : 0 ≤ s ∧ s < n.t.ports.length) : ∀ P : List Rg, zeB n (if q.kind = 5 then m else n) q s P = zbp n m q s P
  | [] => rfl
  | r :: rs => by
    rw [zeB, zbp, znR ht hs rs, zdu hs]
    by_cases k : q.kind = 5
    · have hs' : 0 ≤ s ∧ s < m.t.ports.length := by rw [← ht k]; exact hs
      rw [if_pos k, zdu hs']
      simp only [uOf, if_pos k]
    · rw [if_neg k, zdu hs]
      simp only [uOf, if_neg k]
      rw [znQ k _ (zaa n s r.lo) zc2]
theorem zml {n m : Nw} {q : Qy} (ht : q.kind = 5 → n.t = m.t) (P : List Rg) : ∀ S : List Int, (∀ s ∈ S, 0 ≤ s ∧ s < n.t.ports.length) → zcU n (if q.kind = 5 then m else n) q P S = zc3 n m q P S
  | [], _ => rfl
  | s :: S, h => by
    rw [zcU, zc3, znR ht (h s (by simp)), zml ht P S fun x hx => h x (by simp [hx])]
    cases zbp n m q s P <;> rfl
theorem zlx {n m : Nw} {q : Qy} (h : zbz n m q = true) : zdl n m q = ((zc3 n m q (zaf n m q) (zX n q)).getD zjE, 0) := by
  obtain ⟨h1, h2⟩ := zhh.1 h
  rw [zp3 h1 h2, zml h2 _ _ fun s hs => zhg h1 hs]
  unfold zaf
  cases zc3 n m q (zbZ [n, if q.kind = 5 then m else n] q.r) (zX n q) <;> rfl
theorem znS {n m : Nw} {q : Qy} (h : zbz n m q = false) : zdl n m q = (⟨false, 0, 0, zc2⟩, 121) := by
  unfold zdl
  rw [if_pos]
  unfold zbz at h
  rw [Bool.and_eq_false_iff] at h
  rcases h with h | h
  · exact .inl h
  · simp only [Bool.or_eq_false_iff, Bool.not_eq_false', decide_eq_true_eq, decide_eq_false_iff_not] at h
    exact .inr h
theorem zmm {t : Tp} {p : Pt} (h : hasB t p = true) : 0 ≤ p.dev ∧ p.dev < t.ports.length := by
  unfold hasB at h
  rw [Bool.and_eq_true, decide_eq_true_eq] at h
  refine ⟨h.1, ?_⟩
  cases hp : t.ports[p.dev.toNat]? with
  | none => rw [hp] at h; cases h.2
  | some x =>
    obtain ⟨h1, _⟩ := List.getElem?_eq_some_iff.1 hp
    omega
structure RightT (t : Tp) : Prop where
  p0 : t.ports.length ≠ 0
  p8 : t.ports.length ≤ 8
  l16 : t.links.length ≤ 16
  lk : ∀ l ∈ t.links, hasB t l.a = true ∧ hasB t l.b = true
theorem znT {t : Tp} (h : zdN t = true) : RightT t := by
  unfold zdN at h
  simp only [Bool.and_eq_true, Bool.not_eq_true', decide_eq_false_iff_not] at h
  obtain ⟨h1, h2, h3, h4, h5, h6⟩ := h
  refine ⟨h1, by omega, by omega, fun l hl => ?_⟩
  rw [List.any_eq_false] at h5
  have := h5 l hl
  unfold zhw at this
  simp only [Bool.or_eq_true, Bool.not_eq_true', not_or, Bool.not_eq_false] at this
  exact ⟨this.1, this.2.1⟩
theorem zmn {n : Nw} (hr : RightT n.t) {a s d : Int} (hs : 0 ≤ s ∧ s < n.t.ports.length) {p : List Int} (h : Way n a s d p) : p.length ≤ n.t.ports.length := by
  have := zeb (m := (List.range n.t.ports.length).map fun i : Nat => (i : Int)) h.nd fun x hx => by
    have hd := h.sub x hx
    have hx' : 0 ≤ x ∧ x < n.t.ports.length := by
      unfold zfh at hd
      rw [List.mem_cons, List.mem_flatMap] at hd
      rcases hd with rfl | ⟨l, hl, hx⟩
      · exact hs
      · simp only [List.mem_cons, List.not_mem_nil, or_false] at hx
        obtain ⟨h1, h2⟩ := hr.lk l hl
        rcases hx with rfl | rfl
        · exact zmm h1
        · exact zmm h2
    simp only [List.mem_map, List.mem_range]
    exact ⟨x.toNat, by omega, by omega⟩
  simpa using this
theorem zmo {n : Nw} (hr : RightT n.t) {a s : Int} (hs : 0 ≤ s ∧ s < n.t.ports.length) : ∀ (k : Nat) {d : Int} {p : List Int}, Way n a s d p → 1 + 2 * n.t.links.length - p.length = k → (zaa n s a).path.length ≤ n.t.ports.length + 1 := by
  intro k
  induction k with
  | zero =>
    intro d p h hk
    have hl := h.len
    have h0 := zmn hr hs h
    by_cases hd : d ∈ p
    · rw [h.again hd]; simp; omega
    · by_cases h4 : (zZ n d a).1 = 4
      · have := (h.on hd h4).len
        simp only [List.length_append, List.length_singleton] at this; omega
      · rw [h.fin hd h4]; simp; omega
  | succ k ih =>
    intro d p h hk
    have h0 := zmn hr hs h
    by_cases hd : d ∈ p
    · rw [h.again hd]; simp; omega
    · by_cases h4 : (zZ n d a).1 = 4
      · exact ih (h.on hd h4) (by simp only [List.length_append, List.length_singleton]; omega)
      · rw [h.fin hd h4]; simp; omega
theorem zdF {n : Nw} (h : zar n = true) : RightT n.t ∧ n.rules.length ≤ 40 := by
  unfold zar zd8 at h
  simp only [Bool.and_eq_true, decide_eq_true_eq] at h
  exact ⟨znT h.1, h.2.1.2⟩
theorem zfj {n m : Nw} (hn : zar n = true) (hm : zar m = true) (q : Qy) : (zaf n m q).length ≤ 161 := by
  unfold zaf
  by_cases hr : q.r.hi < q.r.lo
  · unfold zbZ; rw [if_pos hr]; simp
  · have hM : zar (if q.kind = 5 then m else n) = true := by split <;> assumption
    generalize (if q.kind = 5 then m else n) = M at hM
    rw [zi9 (by simp [hn, hM]) (by simp) (by omega)]
    unfold zfw
    have h1 := List.length_filterMap_le (zby q.r) (zbc (zaZ (zaw [n, M])))
    rw [zdd] at h1
    have h2 := zha (zaw [n, M])
    have h3 : (zaw [n, M]).length = n.rules.length + M.rules.length := by simp [zaw]
    have := (zdF hn).2
    have := (zdF hM).2
    omega
theorem zoF {n m : Nw} (hn : zar n = true) (hm : zar m = true) {q : Qy} (hq : RgOK q.r) (h : q.r.lo ≤ q.r.hi) : ∃ r rs, zaf n m q = r :: rs := by
  have hM : zar (if q.kind = 5 then m else n) = true := by split <;> assumption
  unfold zaf
  generalize (if q.kind = 5 then m else n) = M at hM
  rw [zi9 (by simp [hn, hM]) (by simp) h]
  have h0 := hq.lo0
  obtain ⟨p, hp, _⟩ := zoC (zbo (zaw [n, M])) (r := q.r) (x := q.r.lo) h0 hq.lo1 ⟨Int.le_refl _, h⟩
  cases hc : zfw (zaZ (zaw [n, M])) q.r with
  | nil => rw [hc] at hp; cases hp
  | cons r rs => exact ⟨r, rs, rfl⟩
theorem zeM {n : Nw} (hn : zar n = true) (q : Qy) : (∃ s ss, zX n q = s :: ss) ∧ (zX n q).length ≤ 8 := by
  obtain ⟨h, _⟩ := zdF hn
  have h0 := h.p0
  have h8 := h.p8
  unfold zX
  split
  · exact ⟨⟨_, _, rfl⟩, by simp⟩
  · constructor
    · cases hp : n.t.ports.length with
      | zero => exact absurd hp h0
      | succ k => exact ⟨_, _, by rw [List.range_succ_eq_map, List.map_cons]⟩
    · simpa using h8
theorem zoG {n m : Nw} (f g : Fl) {q : Qy} (hn : zar n = true) (hm : zar m = true) (hq : RgOK q.r) (h : zbz n m q = true) :
    ∃ s ss T, zX n q = s :: ss ∧ (∃ r rs, zaf n m q = r :: rs) ∧ Ends (pb0 n m f g q) (.one [] s) (zdl n m q).1 T ∧ 1 ≤ T ∧ (T : Int) ≤ zdY n m q ∧ T ≤ 23184 := by
  obtain ⟨h1, h2⟩ := zhh.1 h
  obtain ⟨⟨s, ss, hs⟩, hs8⟩ := zeM hn q
  obtain ⟨r, rs, hp⟩ := zoF hn hm hq h1.le
  have hpl := zfj hn hm q
  obtain ⟨hT, _⟩ := zdF hn
  obtain ⟨hT2, _⟩ := zdF hm
  have h8 := hT.p8
  obtain ⟨C, hC⟩ : ∃ C, C = if q.kind = 5 then (n.t.ports.length + 1) * 2 else n.t.ports.length + 1 := ⟨_, rfl⟩
  have hcost : ∀ s ∈ zX n q, ∀ a, zbU n m q s a ≤ C := by
    intro s hs a
    have hr := zhg h1 hs
    have p1 := zmo hT hr _ (Way.start n a s) rfl
    unfold zbU
    by_cases k : q.kind = 5
    · have hr' : 0 ≤ s ∧ s < m.t.ports.length := by rw [← h2 k]; exact hr
      have p2 := zmo hT2 hr' _ (Way.start m a s) rfl
      rw [← h2 k] at p2
      rw [hC, if_pos k, if_pos k]; omega
    · rw [hC, if_neg k, if_neg k]; omega
  obtain ⟨T, e1, e2, e3⟩ := zoE (X := pb0 n m f g q) (C := C) (by show zaf n m q ≠ []; rw [hp]; simp) hcost ss s (zaf n m q) (by rw [hp]; simp) (by show s ∈ zX n q; rw [hs]; simp) (fun x hx => by show x ∈ zX n q; rw [hs]; simp [hx])
  have e3 : T ≤ ((zaf n m q).length + ss.length * (zaf n m q).length) * C := e3
  have hlen : (zX n q).length = ss.length + 1 := by rw [hs]; rfl
  have hprod : ((zaf n m q).length + ss.length * (zaf n m q).length) * C = (zX n q).length * (zaf n m q).length * C := by
    have : (ss.length + 1) * (zaf n m q).length = (zaf n m q).length + ss.length * (zaf n m q).length := by rw [Nat.add_mul, Nat.one_mul, Nat.add_comm]
    rw [hlen, this]
  rw [hprod] at e3
  refine ⟨s, ss, T, hs, ⟨r, rs, hp⟩, ?_, e2, ?_, ?_⟩
  · have e : (zdl n m q).1 = (zbp n m q s (zaf n m q)).getD ((zc3 n m q (zaf n m q) ss).getD zjE) := by
      rw [zlx h, hs, zc3]
      cases zbp n m q s (zaf n m q) <;> rfl
    rw [e]
    have e4 : pb0 n m f g q = { pb0 n m f g q with S := s :: ss, P := zaf n m q } := by rw [← hs]; rfl
    rw [e4]
    exact e1
  · have hb : zdY n m q = (((zX n q).length * (zaf n m q).length * C : Nat) : Int) := by
      unfold zdY
      rw [if_pos h, hC]
      by_cases k : q.kind = 5
      · rw [if_pos k, if_pos k, ← Nat.mul_assoc]; simp [Int.natCast_mul]
      · rw [if_neg k, if_neg k]; simp [Int.natCast_mul]
    rw [hb]; exact_mod_cast e3
  · have hc18 : C ≤ 18 := by rw [hC]; split <;> omega
    have := Nat.mul_le_mul (Nat.mul_le_mul hs8 hpl) hc18
    omega
end Go.Proofs.YtanimmdlgmkmkaaGreat.Av
namespace Go.Proofs.YtanimmdlgmkmkaaGreat.Av
open Go
set_option linter.unusedSimpArgs false
set_option linter.unusedVariables false
set_option maxRecDepth 100000
theorem Ends.only {X : PB} {ph : Ph} {V : Vd} {T : Nat} (h : Ends X ph V T) : ∀ {V' : Vd} {T' : Nat}, Ends X ph V' T' → T = T' := by
  induction h with
  | fin X V =>
    intro V' T' h
    cases h with
    | fin => rfl
    | step hd _ => cases hd
  | step hd _ ih =>
    intro V' T' h
    cases h with
    | fin => cases hd
    | step _ h2 => rw [ih h2]
def zdf (N M : Nw) (q : Qy) (s : Int) : List Rg → Nat
  | [] => 0
  | r :: rs => zbU N M q s r.lo + if zaz q (zaa N s r.lo) (uOf M q s r.lo) = true then 0 else zdf N M q s rs
def zdg (o : Option Vd) (k : Nat) : Nat := match o with
  | some _ => 0
  | none => k
def zcg (N M : Nw) (q : Qy) (A : List Rg) : List Int → Nat
  | [] => 0
  | s :: ss => zdf N M q s A + zdg (zbp N M q s A) (zcg N M q A ss)
theorem znU {X : PB} (hA : X.A ≠ []) : ∀ (ss : List Int) (s : Int) (P : List Rg), P ≠ [] →
    ∃ V, Ends { X with S := s :: ss, P := P } (.one [] s) V (zdf X.N X.M X.q s P + zdg (zbp X.N X.M X.q s P) (zcg X.N X.M X.q X.A ss)) := by
  intro ss
  induction ss with
  | nil =>
    intro s P
    induction P with
    | nil => intro h; exact absurd rfl h
    | cons r P ih =>
      intro _
      simp only [zdf, zbp]
      by_cases hb : zaz X.q (zaa X.N s r.lo) (uOf X.M X.q s r.lo) = true
      · rw [if_pos hb, if_pos hb]
        refine ⟨_, Ends.cast (T := 0 + zbU X.N X.M X.q s r.lo) (zbI (s := s) (ss := []) (r := r) (rs := P) rfl rfl (V := ⟨false, s, r.lo, zaa X.N s r.lo⟩) ?_) (by simp [zdg])⟩
        simp only [zbF, if_pos hb]
        exact .fin _ _
      · rw [if_neg hb, if_neg hb]
        cases P with
        | nil =>
          refine ⟨_, Ends.cast (T := 0 + zbU X.N X.M X.q s r.lo) (zbI (s := s) (ss := []) (r := r) (rs := []) rfl rfl (V := zjE) ?_) (by simp [zdf, zbp, zcg, zdg])⟩
          simp only [zbF, if_neg hb]
          exact .fin _ _
        | cons r' P =>
          obtain ⟨V, h2⟩ := ih (by simp)
          refine ⟨V, Ends.cast (zbI (s := s) (ss := []) (r := r) (rs := r' :: P) rfl rfl (V := V) (T := zdf X.N X.M X.q s (r' :: P) + zdg (zbp X.N X.M X.q s (r' :: P)) (zcg X.N X.M X.q X.A [])) ?_) (by show _ + zbU X.N X.M X.q s r.lo = _; omega)⟩
          simp only [zbF, if_neg hb]
          exact h2
  | cons s' ss ihs =>
    intro s P
    induction P with
    | nil => intro h; exact absurd rfl h
    | cons r P ih =>
      intro _
      simp only [zdf, zbp]
      by_cases hb : zaz X.q (zaa X.N s r.lo) (uOf X.M X.q s r.lo) = true
      · rw [if_pos hb, if_pos hb]
        refine ⟨_, Ends.cast (T := 0 + zbU X.N X.M X.q s r.lo) (zbI (s := s) (ss := s' :: ss) (r := r) (rs := P) rfl rfl (V := ⟨false, s, r.lo, zaa X.N s r.lo⟩) ?_) (by simp [zdg])⟩
        simp only [zbF, if_pos hb]
        exact .fin _ _
      · rw [if_neg hb, if_neg hb]
        cases P with
        | nil =>
          obtain ⟨V, h2⟩ := ihs s' X.A hA
          refine ⟨V, Ends.cast (zbI (s := s) (ss := s' :: ss) (r := r) (rs := []) rfl rfl (V := V) (T := zdf X.N X.M X.q s' X.A + zdg (zbp X.N X.M X.q s' X.A) (zcg X.N X.M X.q X.A ss)) ?_) (by show _ + zbU X.N X.M X.q s r.lo = _; simp only [zdf, zbp, zcg, zdg]; omega)⟩
          simp only [zbF, if_neg hb]
          exact h2
        | cons r' P =>
          obtain ⟨V, h2⟩ := ih (by simp)
          refine ⟨V, Ends.cast (zbI (s := s) (ss := s' :: ss) (r := r) (rs := r' :: P) rfl rfl (V := V) (T := zdf X.N X.M X.q s (r' :: P) + zdg (zbp X.N X.M X.q s (r' :: P)) (zcg X.N X.M X.q X.A (s' :: ss))) ?_) (by show _ + zbU X.N X.M X.q s r.lo = _; omega)⟩
          simp only [zbF, if_neg hb]
          exact h2
theorem zoH {n m : Nw} {f g : Fl} {q : Qy} {s : Int} {ss : List Int} (hs : zX n q = s :: ss) (hp : ∃ r rs, zaf n m q = r :: rs) {V : Vd} {T : Nat} (h : Ends (pb0 n m f g q) (.one [] s) V T) :
    T = zcg n m q (zaf n m q) (zX n q) := by
  obtain ⟨r, rs, hp⟩ := hp
  obtain ⟨V', h'⟩ := znU (X := pb0 n m f g q) (by show zaf n m q ≠ []; rw [hp]; simp) ss s (zaf n m q) (by rw [hp]; simp)
  have e4 : pb0 n m f g q = { pb0 n m f g q with S := s :: ss, P := zaf n m q } := by rw [← hs]; rfl
  rw [← e4] at h'
  rw [h.only h', hs]
  rfl
end Go.Proofs.YtanimmdlgmkmkaaGreat.Av
namespace Go.Proofs.YtanimmdlgmkmkaaGreat.Av.Zn
open Go
set_option linter.unusedSimpArgs false
set_option linter.unusedVariables false
set_option maxRecDepth 100000
attribute [ext] Rg
def zAV (z : List Rg) (full : Bool) : AV := .sl 2 (z.map zat) full
end Go.Proofs.YtanimmdlgmkmkaaGreat.Av.Zn
namespace Go.Proofs.YtanimmdlgmkmkaaGreat.Av.Zn
open Go
set_option linter.unusedSimpArgs false
set_option linter.unusedVariables false
set_option maxRecDepth 100000
set_option pp.maxSteps 300
def _root_.Go.Proofs.YtanimmdlgmkmkaaGreat.Av.Rg.In (r : Rg) : Prop := 0 ≤ r.lo ∧ r.lo < 4294967296 ∧ 0 ≤ r.hi ∧ r.hi < 4294967296
def InZ (z : List Rg) : Prop := ∀ r ∈ z, r.In
def ztf (z : List Rg) (i : Nat) : Bool :=
  match z[i]? with
  | some r => decide (r.lo ≤ r.hi) && (i == 0 || match z[i - 1]? with | some p => decide (p.hi + 1 < r.lo) | none => true)
  | none => true
def zwf (z : List Rg) : Bool := (List.range z.length).all (ztf z)
end Go.Proofs.YtanimmdlgmkmkaaGreat.Av.Zn
namespace Go.Proofs.YtanimmdlgmkmkaaGreat.Av.Zn
open Go
set_option linter.unusedSimpArgs false
set_option linter.unusedVariables false
set_option maxRecDepth 100000
set_option pp.maxSteps 300
def zwg (z : List Rg) (i : Nat) : Int := match i with | 0 => -2 | k + 1 => match z[k]? with | some r => r.hi | none => -2
def zwh (z : List Rg) : AV := match z with | [] => .tup [.raw (.int .u32 0), .raw (.bool false)] | r :: _ => .tup [.raw (.int .u32 r.lo), .raw (.bool true)]
def hasB (z : List Rg) (a : Int) : Bool := z.any fun r => decide (r.lo ≤ a) && decide (a ≤ r.hi)
def zwi (z : List Rg) : Int := (z.map fun r => r.hi - r.lo + 1).sum
end Go.Proofs.YtanimmdlgmkmkaaGreat.Av.Zn
namespace Go.Proofs.YtanimmdlgmkmkaaGreat.Av.Zn
open Go
set_option linter.unusedSimpArgs false
set_option linter.unusedVariables false
set_option maxRecDepth 100000
set_option pp.maxSteps 300
def cmpI (a b : Int) : Int := if a < b then -1 else if b < a then 1 else 0
def firstGe (c : Rg → Int) (z : List Rg) : Nat := z.findIdx fun r => decide (0 ≤ c r)
end Go.Proofs.YtanimmdlgmkmkaaGreat.Av.Zn
namespace Go.Proofs.YtanimmdlgmkmkaaGreat.Av.Zn
open Go
set_option linter.unusedSimpArgs false
set_option linter.unusedVariables false
set_option maxRecDepth 100000
set_option pp.maxSteps 300
structure But (i : Id) (σ τ : St) : Prop where
  m : ∀ l o, l ≠ i → σ.m l = some o → τ.m l = some o
  nx : ∀ s, σ.nx s ≤ τ.nx s
end Go.Proofs.YtanimmdlgmkmkaaGreat.Av.Zn
namespace Go.Proofs.YtanimmdlgmkmkaaGreat.Av.Zn
open Go
set_option linter.unusedSimpArgs false
set_option linter.unusedVariables false
set_option maxRecDepth 100000
end Go.Proofs.YtanimmdlgmkmkaaGreat.Av.Zn
namespace Go.Proofs.YtanimmdlgmkmkaaGreat.Av.Zn
set_option linter.unusedSimpArgs false
set_option linter.unusedVariables false
def MZ (z : List Rg) (a : Int) : Prop := ∃ r ∈ z, r.lo ≤ a ∧ a ≤ r.hi
theorem zly {a : Int} : ¬ MZ [] a := fun ⟨_, h, _⟩ => by cases h
theorem zbP {r : Rg} {z : List Rg} {a : Int} : MZ (r :: z) a ↔ (r.lo ≤ a ∧ a ≤ r.hi) ∨ MZ z a := by
  constructor
  · rintro ⟨s, h, k⟩
    rcases List.mem_cons.1 h with rfl | h
    · exact .inl k
    · exact .inr ⟨s, h, k⟩
  · rintro (h | ⟨s, h, k⟩)
    · exact ⟨r, by simp, h⟩
    · exact ⟨s, by simp [h], k⟩
def RZ : Int → List Rg → Prop
  | _, [] => True
  | b, r :: z => b < r.lo ∧ r.lo ≤ r.hi ∧ RZ (r.hi + 1) z
theorem RZ.gt : ∀ {z : List Rg} {b a : Int}, RZ b z → MZ z a → b < a
  | [], _, _, _, h => absurd h zly
  | r :: z, b, a, k, h => by
    rcases zbP.1 h with h | h
    · have := k.1; omega
    · have := RZ.gt k.2.2 h; have := k.1; have := k.2.1; omega
theorem RZ.ext : ∀ {x y : List Rg} {b c : Int}, RZ b x → RZ c y → (∀ a, MZ x a ↔ MZ y a) → x = y
  | [], [], _, _, _, _, _ => rfl
  | [], s :: y, _, _, _, k, h => absurd ((h s.lo).2 (zbP.2 (.inl ⟨Int.le_refl _, k.2.1⟩))) zly
  | r :: x, [], _, _, k, _, h => absurd ((h r.lo).1 (zbP.2 (.inl ⟨Int.le_refl _, k.2.1⟩))) zly
  | r :: x, s :: y, b, c, k, l, h => by
    obtain ⟨k1, k2, k3⟩ := k
    obtain ⟨l1, l2, l3⟩ := l
    have gx : ∀ {a}, MZ x a → r.hi + 1 < a := fun h => RZ.gt k3 h
    have gy : ∀ {a}, MZ y a → s.hi + 1 < a := fun h => RZ.gt l3 h
    have hlo : r.lo = s.lo := by
      have h1 := (h r.lo).1 (zbP.2 (.inl ⟨Int.le_refl _, k2⟩))
      have h2 := (h s.lo).2 (zbP.2 (.inl ⟨Int.le_refl _, l2⟩))
      rcases zbP.1 h1 with h1 | h1 <;> rcases zbP.1 h2 with h2 | h2
      · omega
      · have := gx h2; omega
      · have := gy h1; omega
      · have := gx h2; have := gy h1; omega
    have hhi : r.hi = s.hi := by
      rcases Int.lt_trichotomy r.hi s.hi with hl | hl | hl
      · have h1 := (h (r.hi + 1)).2 (zbP.2 (.inl ⟨by omega, by omega⟩))
        rcases zbP.1 h1 with h1 | h1
        · omega
        · have := gx h1; omega
      · exact hl
      · have h1 := (h (s.hi + 1)).1 (zbP.2 (.inl ⟨by omega, by omega⟩))
        rcases zbP.1 h1 with h1 | h1
        · omega
        · have := gy h1; omega
    have he : r = s := Rg.ext hlo hhi
    subst he
    congr 1
    refine RZ.ext k3 l3 fun a => ⟨fun ha => ?_, fun ha => ?_⟩
    · rcases zbP.1 ((h a).1 (zbP.2 (.inr ha))) with h1 | h1
      · have := gx ha; omega
      · exact h1
    · rcases zbP.1 ((h a).2 (zbP.2 (.inr ha))) with h1 | h1
      · have := gy ha; omega
      · exact h1
theorem RZ.at : ∀ {z : List Rg} {b : Int}, RZ b z → ∀ i r, z[i]? = some r → b < r.lo ∧ r.lo ≤ r.hi ∧ ∀ s, z[i + 1]? = some s → r.hi + 1 < s.lo
  | [], _, _, _, _, h => by simp at h
  | r :: z, b, k, 0, s, h => by
    simp at h; subst h
    refine ⟨k.1, k.2.1, fun s hs => ?_⟩
    cases z with
    | nil => simp at hs
    | cons t z => simp at hs; subst hs; exact k.2.2.1
  | r :: z, b, k, i + 1, s, h => by
    have := RZ.at k.2.2 i s (by simpa using h)
    refine ⟨by have := k.1; have := k.2.1; omega, this.2.1, fun t ht => this.2.2 t (by simpa using ht)⟩
def mg : Rg → List Rg → List Rg
  | r, [] => [r]
  | r, x :: l => if x.lo ≤ r.hi + 1 then mg ⟨r.lo, max r.hi x.hi⟩ l else r :: mg x l
def zwj : List Rg → List Rg
  | [] => []
  | r :: l => mg r l
def zp6 : List Rg → List Rg → List Rg
  | r :: x, s :: y => (if max r.lo s.lo ≤ min r.hi s.hi then [⟨max r.lo s.lo, min r.hi s.hi⟩] else []) ++ if r.hi < s.hi then zp6 x (s :: y) else zp6 (r :: x) y
  | _, _ => []
termination_by x y => x.length + y.length
def ztg : Int → List Rg → List Rg
  | b, [] => if b ≤ 4294967295 then [⟨b, 4294967295⟩] else []
  | b, r :: z => (if b < r.lo then [⟨b, r.lo - 1⟩] else []) ++ ztg (r.hi + 1) z
end Go.Proofs.YtanimmdlgmkmkaaGreat.Av.Zn
namespace Go.Proofs.YtanimmdlgmkmkaaGreat.Av
open Go
set_option linter.unusedSimpArgs false
set_option linter.unusedVariables false
set_option maxRecDepth 100000
set_option maxHeartbeats 4000000
set_option pp.maxSteps 600
structure Lab where
  n : Nw
  t : Option Tab
  rows : List (List Int)
def inAV (l : List Int) : AV := zq l false
def zth (L : Lab) : List AV := [zq L.n.t.ports false, zy L.n.t.links false, zE L.n.rules false, zbn L.t, .sl 1 (L.rows.map inAV) false]
def labO : Option Lab → AV
  | none => .raw (.pointer none)
  | some L => .pp (zth L) 0
def zp7 (l : List Ru) : Option Tab := l.foldl (fun T x => (zg5 T x.r).1) (some zad)
def zrO (n : Nw) : Lab := ⟨n, zp7 n.rules, (List.range n.t.ports.length).map fun d : Nat => zp4 n (zp7 n.rules) d⟩
def ofL (n : Nw) : Option Lab × Int := if zar n then (some (zrO n), 0) else (none, 71)
theorem znV {n : Nw} (h : zar n = true) : 1 ≤ n.t.ports.length ∧ n.t.ports.length ≤ 8 := by
  unfold zar zdN at h
  simp only [Bool.and_eq_true, Bool.not_eq_true', decide_eq_false_iff_not] at h
  omega
end Go.Proofs.YtanimmdlgmkmkaaGreat.Av
namespace Go.Proofs.YtanimmdlgmkmkaaGreat.Av
open Go
set_option linter.unusedSimpArgs false
set_option linter.unusedVariables false
set_option maxRecDepth 100000
set_option maxHeartbeats 4000000
set_option pp.maxSteps 600
def zyB (L : Lab) (d a : Int) : Option Int := if 0 ≤ d ∧ 0 ≤ a then (L.rows[d.toNat]?).bind fun r => r[a.toNat]? else none
end Go.Proofs.YtanimmdlgmkmkaaGreat.Av
namespace Go.Proofs.YtanimmdlgmkmkaaGreat.Av
open Go
set_option linter.unusedSimpArgs false
set_option linter.unusedVariables false
set_option maxRecDepth 100000
set_option maxHeartbeats 4000000
set_option pp.maxSteps 600
def zwk (n : Nw) (d a : Int) : Int := if (zcJ n d a).1 = 2 then -3 else if (zcJ n d a).1 = 1 then -2 else if (zcJ n d a).1 = 0 then -1 else (zcJ n d a).2.port
end Go.Proofs.YtanimmdlgmkmkaaGreat.Av
namespace Go.Proofs.YtanimmdlgmkmkaaGreat.Av
open Go
set_option linter.unusedSimpArgs false
set_option linter.unusedVariables false
set_option maxRecDepth 100000
set_option maxHeartbeats 4000000
set_option pp.maxSteps 600
def firstGe (c : Ru → Int) (z : List Ru) : Nat := z.findIdx fun r => decide (0 ≤ c r)
def zlz (z : List Ru) (id : Int) : Nat := firstGe (fun r => cmpI r.id id) z
def zyC (z : List Ru) (id : Int) : Bool := match z[zlz z id]? with | some r => decide (r.id = id) | none => false
def ru0 : Ru := ⟨0, 0, 0, 0, ⟨0, 0⟩, 0⟩
end Go.Proofs.YtanimmdlgmkmkaaGreat.Av
namespace Go.Proofs.YtanimmdlgmkmkaaGreat.Av
open Go
set_option linter.unusedSimpArgs false
set_option linter.unusedVariables false
set_option maxRecDepth 100000
set_option maxHeartbeats 4000000
set_option pp.maxSteps 600
def zp8 (L : Lab) (T : Option Tab) (d : Nat) : List Int := (List.range (T.getD zad).b.sz.toNat).map fun i : Nat => ((L.rows[d]?).bind fun r => r[(ofT L.t ((zgo T i).getD ⟨0, 0⟩).lo).toNat]?).getD 0
end Go.Proofs.YtanimmdlgmkmkaaGreat.Av
namespace Go.Proofs.YtanimmdlgmkmkaaGreat.Av
open Go
set_option linter.unusedSimpArgs false
set_option linter.unusedVariables false
set_option maxRecDepth 100000
set_option maxHeartbeats 4000000
set_option pp.maxSteps 600
def zpa (L : Lab) (n : Nw) (T : Option Tab) (dev : Int) (d : Nat) : List Int := if (d : Int) = dev then zp4 n T d else zp8 L T d
def zpb (L : Lab) (n : Nw) (T : Option Tab) (dev : Int) : Lab := ⟨n, T, (List.range n.t.ports.length).map (zpa L n T dev)⟩
end Go.Proofs.YtanimmdlgmkmkaaGreat.Av
namespace Go.Proofs.YtanimmdlgmkmkaaGreat.Av
open Go
set_option linter.unusedSimpArgs false
set_option linter.unusedVariables false
end Go.Proofs.YtanimmdlgmkmkaaGreat.Av
namespace Go.Proofs.YtanimmdlgmkmkaaGreat.Av
open Go
set_option linter.unusedSimpArgs false
set_option linter.unusedVariables false
def zec (n : Nw) : List Rg := n.rules.map (·.r)
def zti (n : Nw) (d : Nat) : List Int := (zbc (zaZ (zec n))).map fun r => atI n d r.lo
structure LabRep (L : Lab) (n : Nw) : Prop where
  net : L.n = n
  ok : NwOK n
  right : zar n = true
  rep : TabRep (L.t.getD zad) (zec n)
  rows : L.rows = (List.range n.t.ports.length).map (zti n)
end Go.Proofs.YtanimmdlgmkmkaaGreat.Av
namespace Go.Proofs.YtanimmdlgmkmkaaGreat.Av
open Go
set_option linter.unusedSimpArgs false
set_option linter.unusedVariables false
set_option maxRecDepth 100000
set_option maxHeartbeats 4000000
set_option pp.maxSteps 600
def ztj (n : Nw) (id : Int) : Nw := ⟨n.t, n.rules.eraseIdx (zlz n.rules id)⟩
def zp9 (n : Nw) (id : Int) : Ru := (n.rules[zlz n.rules id]?).getD ru0
def zwl (L : Lab) (n : Nw) (id : Int) : Lab := zpb L (ztj n id) (zrN L.t (zp9 n id).r).1 (zp9 n id).dev
end Go.Proofs.YtanimmdlgmkmkaaGreat.Av
namespace Go.Proofs.YtanimmdlgmkmkaaGreat.Av
open Go
set_option linter.unusedSimpArgs false
set_option linter.unusedVariables false
set_option maxRecDepth 100000
set_option maxHeartbeats 4000000
set_option pp.maxSteps 600
end Go.Proofs.YtanimmdlgmkmkaaGreat.Av
namespace Go.Proofs.YtanimmdlgmkmkaaGreat.Av
open Go
set_option linter.unusedSimpArgs false
set_option linter.unusedVariables false
set_option maxRecDepth 100000
set_option maxHeartbeats 4000000
set_option pp.maxSteps 600
def zyD : AV := .agg [.sl 0 [] true, .sl 0 [] true, .sl 0 [] true]
end Go.Proofs.YtanimmdlgmkmkaaGreat.Av
namespace Go.Proofs.YtanimmdlgmkmkaaGreat.Av
open Go
set_option linter.unusedSimpArgs false
set_option linter.unusedVariables false
set_option maxRecDepth 100000
set_option maxHeartbeats 4000000
set_option pp.maxSteps 600
theorem zkp {n m : Nw} {q : Qy} (h : zhf n m q = true) : zar n = true ∧ zar m = true := by
  unfold zhf zdW at h
  simp only [Bool.and_eq_true] at h
  exact ⟨h.1.2.2.2, h.2.1.2.2.2⟩
theorem zmp (n m : Nw) (q : Qy) : (zdl n m q).1.tr.path.length ≤ 2 + 2 * n.t.links.length := by
  unfold zdl
  split
  · simp [zc2]
  · split
    · rename_i v h
      obtain ⟨d, _, p, _, rfl, _⟩ := zi8 h
      exact zdV n d p.lo
    · simp [zc2]
end Go.Proofs.YtanimmdlgmkmkaaGreat.Av
