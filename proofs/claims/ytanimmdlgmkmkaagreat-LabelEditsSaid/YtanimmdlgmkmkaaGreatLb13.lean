/- Labels: LabelBack, LabelEdits. Part 13 of 17: AvL15, AvL16, AvL17. -/
import Derived.Test.YtanimmdlgmkmkaaGreatLb9
import Derived.Test.YtanimmdlgmkmkaaGreatLb10
import Derived.Lib.Overlaps
namespace Go.Proofs.YtanimmdlgmkmkaaGreat.Av
open Go
set_option linter.unusedSimpArgs false
set_option linter.unusedVariables false
set_option maxRecDepth 100000
set_option maxHeartbeats 4000000
set_option pp.maxSteps 600
theorem zjD {P : Program} {A : zN} {σ : St} {dst : Option Nat} {x y : Operand} {ty : TypeId} {ts : Array TypeId} {pos : String} {aft : Array Edge} {K : AV → St → Prop} {i j : Id} {o1 l1 o2 l2 : Nat} {es fs : List AV}
    {f : FuncId} {fn : Func} (hf : P.funcs[f]? = some fn) (hname : (fn.name == "runtime.NumGoroutine") = false) (hb : fn.body.isNone = true) (hnx : Extern.findNext fn = none) {tS tR e : TypeId} {n : Nat} (hfd : Extern.find fn = some (Extern.SlicesOverlaps.overlaps #[tS, tS] #[tR]))
    (hu : P.underlying tS = some (.slice e)) (hs : tsz P e = some n) (hn : 0 < n)
    (ax : zH A x = .rs i o1 l1) (ay : zH A y = .rs j o2 l2) (hi : σ.m i = some (.buf es)) (hj : σ.m j = some (.buf fs)) (hne : i ≠ j) (his : i.sz = n) (hjs : j.sz = n) (hfs : fs ≠ []) (hK : K (.raw (.bool false)) σ) :
    SStep P ⟨dst, .call { callee := .value (.func f), args := #[x, y], argTypes := ts }, ty, pos, aft, none⟩ A σ K := by
  refine ⟨fun c e => by simp at e, fun S ρ hS hρ hc => ⟨.val (.raw (.bool false)), ?_, hK⟩⟩
  have hx := hρ x
  have hy := hρ y
  rw [ax] at hx
  rw [ay] at hy
  simp only [VRel] at hx hy
  obtain ⟨cx, e1, -, -, -, -⟩ := hx
  obtain ⟨cy, e2, -, -, -, -⟩ := hy
  obtain ⟨g1, g2, g3, c1, t1, hb1, hl1, -⟩ := hS.live i _ hi
  obtain ⟨k1, k2, k3, c2, t2, hb2, hl2, -⟩ := hS.live j _ hj
  have hmu : S.mu i ≠ S.mu j := fun h => hne (hS.inj i j (by rw [hi]; simp) (by rw [hj]; simp) h)
  have hk2 : c2.size ≠ 0 := by
    have : 0 < fs.length := List.length_pos_iff.2 hfs
    have := Nat.mul_pos this hn
    rw [hjs] at hl2; omega
  have hrun := Lib.run_overlaps_apart (P := P) S.w tS tR e hu n (fun w => zay hs w) ⟨S.mu i, o1 * i.sz, none⟩ ⟨S.mu j, o2 * j.sz, none⟩ l1 cx l2 cy hmu t1 t2 c1.size c2.size (by simp [World.shape?, hb1]) (by simp [World.shape?, hb2]) hk2 (by simp [World.frozen?, hb1]) (by simp [World.frozen?, hb1])
  refine ⟨.bool false, ?_, by simp only [VRel]⟩
  have hcall : (callFunc f #[ρ x, ρ y]).run P S.w = .ok (.value (.bool false)) S.w := by
    rw [run_callFunc_extern hf hname hb hnx hfd, e1, e2, hrun]; rfl
  have hff : ρ (.func f) = .func (.func f) #[] #[] := by
    have h := hρ (.func f)
    simp only [zH, VRel, LRel] at h
    obtain ⟨l, m, e, h1, h2⟩ := h
    have hl : l = #[] := by rw [← Array.toArray_toList (xs := l), h1]
    have hm : m = #[] := by rw [← Array.toArray_toList (xs := m), h2]
    rw [e, hl, hm]
  simp [execOp, resolve, invoke, hff, Deferred.ofValue, hcall]
theorem zlI (l : List Ru) (r : Ru) (i : Nat) : (l.take i ++ r :: l.drop i).map zE = (l.map zE).take i ++ zE r :: (l.map zE).drop i := by
  rw [List.map_append, List.map_cons, List.map_take, List.map_drop]
theorem zjE {σ0 σ : St} {v : AV} {l : List Ru} {r : Ru} {i : Nat} {kk : Id} (hi : i ≤ l.length) (hl : l.length < 2 ^ 30) (hO : OwnL σ0 σ 7 v (l.map zE)) (hE : Ext σ0 σ)
    (hm : σ.m kk = some (.buf [zE r])) (hks : kk.sz = 7) (hvk : ∀ a n, v ≠ .rs kk a n) {K : AV → St → Prop}
    (hK : ∀ v' τ, OwnL σ0 τ 7 v' ((l.take i ++ r :: l.drop i).map zE) → Ext σ0 τ → (∀ q o, σ.m q = some o → (∀ a n, v ≠ .rs q a n) → τ.m q = some o ∧ ∀ a n, v' ≠ .rs q a n) → (∀ s, σ.nx s ≤ τ.nx s) → K v' τ) :
    ACalls Tryz.prog 90 [v, .raw (.int .i64 i), .rs kk 0 1] σ K := by
  have hx1 : zaH σ.m (.rs kk 0 1) = some [zE r] := by simp only [zaH, hm]; rfl
  refine zeC Tryz.func90 rfl (N := 95) rfl rfl (by simp) ?_
  rcases hO with ⟨h0, rfl⟩ | ⟨j, rfl, hj, hmj, hn⟩
  · have hl0 : l = [] := List.map_eq_nil_iff.1 h0
    subst hl0
    have hi0 : i = 0 := by simpa using hi
    subst hi0
    (try ((first | with_reducible refine zh ?_ | with_reducible refine zm ?_ | with_reducible refine zo ?_); simp [-cellOK, -zG])); repeat' (first | ((first | refine zd ?_ | refine zg ?_ | refine dN (by decide +kernel) ?_ | refine dC (by decide +kernel) ?_ | (refine za ?_ ?_ <;> (intro hg; simp only [hg])) | fail) <;> simp [-cellOK, -zG]) | refine zf ?_ | refine zc ?_ | (refine zp ?_; simp only [zq]; try simp) | (refine zb (fun hc => ?_) (fun hc => ?_) <;> try simp at hc) | fail)
    refine zal zce (σ0 := σ0) (τ := σ) (es := []) (.inl ⟨rfl, rfl⟩) hE (ys := [zE r]) hx1 (.inr hks) (by have := zV r; simpa [z8, zM] using this) (by simp) ?_
    intro v' τ' hO' hE' hk' hn'
    (try ((first | with_reducible refine zh ?_ | with_reducible refine zm ?_ | with_reducible refine zo ?_); simp [-cellOK])); repeat' (first | ((first | refine zd ?_ | refine zg ?_ | refine dN (by decide +kernel) ?_ | refine dC (by decide +kernel) ?_ | (refine za ?_ ?_ <;> (intro hg; simp only [hg])) | fail) <;> simp [-cellOK]) | refine zf ?_ | refine zc ?_ | (refine zp ?_; simp only [zq]; try simp) | (refine zb (fun hc => ?_) (fun hc => ?_) <;> try simp at hc) | fail)
    refine zbH (x := v') (.inr rfl) (by simp) (hK v' τ' (by simpa using hO') hE' (fun q o hq hv => hk' q o hq hv) hn')
  have hvj : kk ≠ j := fun e => hvk 0 (l.map zE).length (by rw [e])
  rw [List.length_map] at *
  obtain ⟨X, hX⟩ : ∃ X, zbf j 0 i l.length = X := ⟨_, rfl⟩
  have hil : ((i : Int) = (l.length : Int)) = (i = l.length) := by simp [Int.ofNat_inj]
  by_cases hin : i = l.length
  · have hin' := eq_true hin
    (try ((first | with_reducible refine zh ?_ | with_reducible refine zm ?_ | with_reducible refine zo ?_); simp [-cellOK, hj, hX, hil, hin', hi, -zG])); repeat' (first | ((first | refine zd ?_ | refine zg ?_ | refine dN (by decide +kernel) ?_ | refine dC (by decide +kernel) ?_ | (refine za ?_ ?_ <;> (intro hg; simp only [hg])) | fail) <;> simp [-cellOK, hj, hX, hil, hin', hi, -zG]) | refine zf ?_ | refine zc ?_ | (refine zp ?_; simp only [zq]; try simp) | (refine zb (fun hc => ?_) (fun hc => ?_) <;> try simp at hc) | fail)
    refine zal zce (σ0 := σ0) (τ := σ) (es := l.map zE) (.inr ⟨j, by simp, hj, hmj, hn⟩) hE (ys := [zE r]) hx1 (.inr hks) (by have := zV r; simpa [z8, zM] using this) (by simp; omega) ?_
    intro v' τ' hO' hE' hk' hn'
    (try ((first | with_reducible refine zh ?_ | with_reducible refine zm ?_ | with_reducible refine zo ?_); simp [-cellOK])); repeat' (first | ((first | refine zd ?_ | refine zg ?_ | refine dN (by decide +kernel) ?_ | refine dC (by decide +kernel) ?_ | (refine za ?_ ?_ <;> (intro hg; simp only [hg])) | fail) <;> simp [-cellOK]) | refine zf ?_ | refine zc ?_ | (refine zp ?_; simp only [zq]; try simp) | (refine zb (fun hc => ?_) (fun hc => ?_) <;> try simp at hc) | fail)
    refine zbH (x := v') (.inr rfl) (by simp) (hK v' τ' (by subst hin; simpa using hO') hE' (fun q o hq hv => hk' q o hq (by simpa using hv)) hn')
  have hin' := eq_false hin
  have hX : zbf j 0 i l.length = .rs j i (l.length - i) := by unfold zbf; rw [if_pos (by omega), Nat.zero_add]
  have hX0 : zbf j 0 0 i = .rs j 0 i := by simp [zbf]
  obtain ⟨n1, hn1⟩ : ∃ n1, n1 = l.length + 1 := ⟨_, rfl⟩
  obtain ⟨i1, hi1⟩ : ∃ i1, i1 = i + 1 := ⟨_, rfl⟩
  obtain ⟨q, hq⟩ : ∃ q, q = n1 - i := ⟨_, rfl⟩
  have w1 : IntKind.i64.wrap ((l.length : Int) + 1) = (n1 : Int) := by rw [zU (by omega) (by omega)]; omega
  have w2 : IntKind.i64.wrap ((n1 : Int) - (i : Int)) = (q : Int) := by rw [zU (by omega) (by omega)]; omega
  have w3 : IntKind.i64.wrap ((i : Int) + 1) = (i1 : Int) := by rw [zU (by omega) (by omega)]; omega
  iterate 18 (first | ((first | refine zd ?_ | refine zg ?_ | refine dN (by decide +kernel) ?_ | refine dC (by decide +kernel) ?_ | (refine za ?_ ?_ <;> (intro hg; simp only [hg])) | fail) <;> simp [-cellOK, hj, hX, hil, hin', hi, w1]) | refine zf ?_ | refine zc ?_ | (refine zp ?_; simp only [zq]; try simp) | (refine zb (fun hc => ?_) (fun hc => ?_) <;> try simp at hc) | fail)
  repeat (refine zf ?_)
  refine zeZ 4 rfl rfl ?_
  dsimp only [List.take, List.drop]
  simp [hj, w1]
  refine zn4 (e := 73) (n := 7) (i := j) (off := 0) (len := l.length) (es := l.map zE) (by simp) hj (by decide) (by simp) hmj ?_
  intro k hk1 hk2
  simp only [Nat.zero_add, List.length_map] at hk1 ⊢
  have hms : ∀ x, (σ.set j x).m j = some x := fun x => zbC hmj
  have hmo : ∀ x q, q ≠ j → (σ.set j x).m q = σ.m q := fun x q hq => zbg hq
  by_cases hroom : n1 ≤ k
  · have hr1 : ((k : Int) < (n1 : Int)) = False := eq_false (by omega)
    have hr2 : (k < n1) = False := eq_false (by omega)
    obtain ⟨m, hm1⟩ : ∃ m, k - l.length = m + 1 := ⟨k - l.length - 1, by omega⟩
    rw [hm1]
    (try ((first | with_reducible refine zh ?_ | with_reducible refine zm ?_ | with_reducible refine zo ?_); simp [w1, hr1, hr2]))
    iterate 2 (first | ((first | refine zd ?_ | refine zg ?_ | refine dN (by decide +kernel) ?_ | refine dC (by decide +kernel) ?_ | (refine za ?_ ?_ <;> (intro hg; simp only [hg])) | fail) <;> simp [-cellOK, w1, hr1, hr2]) | refine zf ?_ | refine zc ?_ | (refine zp ?_; simp only [zq]; try simp) | (refine zb (fun hc => ?_) (fun hc => ?_) <;> try simp at hc) | fail)
    refine zkb (hms _) ?_
    generalize hτ : St.set _ _ _ = τ
    have mτ : τ.m j = some (.buf (l.map zE ++ List.replicate (m + 1) (.agg (List.replicate 7 .any)))) := by rw [← hτ, zbC (hms _)]
    have oτ : ∀ q, q ≠ j → τ.m q = σ.m q := fun q hq => by rw [← hτ, zbg hq, zbg hq]
    have nτ : ∀ s, τ.nx s = σ.nx s := fun s => by rw [← hτ]; rfl
    clear hτ hms hmo
    have hcut1 : zbf j 0 i1 n1 = .rs j i1 (l.length - i) := by unfold zbf; rw [if_pos (by omega), Nat.zero_add]; congr 1; omega
    have hcut2 : zbf j 0 i n1 = .rs j i (n1 - i) := by unfold zbf; rw [if_pos (by omega), Nat.zero_add]
    have hin1 : i ≤ n1 := by omega
    have hi1n : i1 ≤ n1 := by omega
    generalize hx0 : (AV.agg (List.replicate 7 .any)) = x0 at mτ
    generalize hE0 : l.map zE ++ List.replicate (m + 1) x0 = E0 at mτ
    have hE0l : E0.length = l.length + (m + 1) := by rw [← hE0]; simp
    repeat (refine zf ?_)
    refine zeZ 4 rfl rfl ?_
    dsimp only [List.take, List.drop]
    simp [hj, w1]
    refine zkv (e := 73) (n := 7) (i := j) (off := 0) (len := l.length) (h := n1) (es := E0) (k2 := .i64) (by simp) (by simp) hj (by decide) (by simp) (by simp) mτ (by omega) ?_
    (try ((first | with_reducible refine zh ?_ | with_reducible refine zm ?_ | with_reducible refine zo ?_); simp))
    repeat (refine zf ?_)
    refine zeZ 6 rfl rfl ?_
    dsimp only [List.take, List.drop]
    simp [hj, w3, hi1n, hcut1]
    refine zjD (i := kk) (j := j) (o1 := 0) (l1 := 1) (o2 := i1) (l2 := l.length - i) (n := 7) (es := [zE r]) (fs := E0) Tryz.func141 rfl rfl rfl (tS := 26) (tR := 4) (e := 73) (by kernel_rfl) (by kernel_rfl) (by simp) (by decide) (by simp) (by simp) (by rw [oτ _ hvj]; exact hm) mτ hvj hks hj (fun e => by rw [e] at hE0l; simp at hE0l) ?_
    (try ((first | with_reducible refine zh ?_ | with_reducible refine zm ?_ | with_reducible refine zo ?_); simp))
    have hy1 : zaH τ.m (.rs j i (n1 - i)) = some ((E0.drop i).take (n1 - i)) := by
      simp only [zaH, mτ]; rw [if_pos (by omega)]
    have hd1 : ((E0.drop i).take (n1 - i)).take (l.length - i) = (l.drop i).map zE := by
      rw [List.take_take, show min (l.length - i) (n1 - i) = l.length - i by omega, ← hE0, List.drop_append_of_le_length (by simp; omega), List.take_left' (by simp), List.map_drop]
    have hln : ((E0.drop i).take (n1 - i)).length = n1 - i := by simp; omega
    iterate 3 (first | ((first | refine zd ?_ | refine zg ?_ | refine dN (by decide +kernel) ?_ | refine dC (by decide +kernel) ?_ | (refine za ?_ ?_ <;> (intro hg; simp only [hg])) | fail) <;> simp [-cellOK, hj, w3, hi1n, hin1, hcut1, hcut2]) | refine zf ?_ | refine zc ?_ | (refine zp ?_; simp only [zq]; try simp) | (refine zb (fun hc => ?_) (fun hc => ?_) <;> try simp at hc) | fail)
    refine zfi zce mτ hj hy1 (.inr hj) (by rw [hd1]; exact ziV _) (by omega) ?_
    rw [hd1, hln, show min (n1 - i) (l.length - i) = l.length - i by omega, show i1 + (l.length - i) = n1 by omega]
    generalize hE1 : E0.take i1 ++ (l.drop i).map zE ++ E0.drop n1 = E1
    generalize hρ : τ.set j _ = ρ
    have mρ : ρ.m j = some (.buf E1) := by rw [← hρ, zbC mτ]
    have oρ : ∀ q, q ≠ j → ρ.m q = σ.m q := fun q hq => by rw [← hρ, zbg hq, oτ q hq]
    have nρ : ∀ s, ρ.nx s = σ.nx s := fun s => by rw [← hρ]; exact nτ s
    have hE1l : E1.length = E0.length := by rw [← hE1]; simp; omega
    clear hρ mτ oτ nτ hy1
    have hx2 : zaH ρ.m (.rs kk 0 1) = some [zE r] := by simp only [zaH, oρ _ hvj, hm]; rfl
    (try ((first | with_reducible refine zh ?_ | with_reducible refine zm ?_ | with_reducible refine zo ?_); simp))
    iterate 2 (first | ((first | refine zd ?_ | refine zg ?_ | refine dN (by decide +kernel) ?_ | refine dC (by decide +kernel) ?_ | (refine za ?_ ?_ <;> (intro hg; simp only [hg])) | fail) <;> simp [-cellOK, hj, hi1n, hin1, hcut2]) | refine zf ?_ | refine zc ?_ | (refine zp ?_; simp only [zq]; try simp) | (refine zb (fun hc => ?_) (fun hc => ?_) <;> try simp at hc) | fail)
    refine zfi zce mρ hj hx2 (.inr hks) (by rw [List.take_of_length_le (by simp; omega)]; have := zV r; simpa [z8, zM] using this) (by omega) ?_
    have ht1 : ([zE r] : List AV).take (n1 - i) = [zE r] := List.take_of_length_le (by simp; omega)
    rw [ht1, show min [zE r].length (n1 - i) = 1 by simp; omega]
    generalize hE2 : E1.take i ++ [zE r] ++ E1.drop (i + 1) = E2
    generalize hπ : ρ.set j _ = π
    have mπ : π.m j = some (.buf E2) := by rw [← hπ, zbC mρ]
    have oπ : ∀ q, q ≠ j → π.m q = σ.m q := fun q hq => by rw [← hπ, zbg hq, oρ q hq]
    have nπ : ∀ s, π.nx s = σ.nx s := fun s => by rw [← hπ]; exact nρ s
    clear hπ mρ oρ nρ hx2
    have hfin : E2.take n1 = (l.take i ++ r :: l.drop i).map zE := by
      have a1 : E1.take i = (l.map zE).take i := by
        rw [← hE1, List.append_assoc, List.take_append_of_le_length (by rw [List.length_take]; omega), List.take_take, show min i i1 = i by omega, ← hE0, List.take_append_of_le_length (by simp; omega)]
      have a2 : E1.drop (i + 1) = (l.map zE).drop i ++ E0.drop n1 := by
        rw [← hE1, List.append_assoc, List.drop_left' (by rw [List.length_take]; omega), List.map_drop]
      rw [zlI, ← hE2, a1, a2, ← List.append_assoc, List.take_left' (by simp; omega), List.append_assoc]
      rfl
    (try ((first | with_reducible refine zh ?_ | with_reducible refine zm ?_ | with_reducible refine zo ?_); simp))
    repeat (refine zf ?_)
    refine zoV mπ n1 ?_
    generalize hχ : St.set _ _ _ = χ
    have mχ : χ.m j = some (.buf ((l.take i ++ r :: l.drop i).map zE)) := by rw [← hχ, zbC mπ, hfin]
    have oχ : ∀ q, q ≠ j → χ.m q = σ.m q := fun q hq => by rw [← hχ, zbg hq, oπ q hq]
    have nχ : ∀ s, χ.nx s = σ.nx s := fun s => by rw [← hχ]; exact nπ s
    clear hχ mπ oπ nπ
    (try ((first | with_reducible refine zh ?_ | with_reducible refine zm ?_ | with_reducible refine zo ?_); simp [-cellOK, hj])); repeat' (first | ((first | refine zd ?_ | refine zg ?_ | refine dN (by decide +kernel) ?_ | refine dC (by decide +kernel) ?_ | (refine za ?_ ?_ <;> (intro hg; simp only [hg])) | fail) <;> simp [-cellOK, hj]) | refine zf ?_ | refine zc ?_ | (refine zp ?_; simp only [zq]; try simp) | (refine zb (fun hc => ?_) (fun hc => ?_) <;> try simp at hc) | fail)
    have hll : ((l.take i ++ r :: l.drop i).map zE).length = n1 := by simp; omega
    refine zbH (x := .rs j 0 n1) (.inr rfl) (by simp) (hK _ χ (OwnL.of hj mχ hn hll.symm) ⟨fun q o hq => ?_, fun s => by rw [nχ]; exact hE.nx s⟩ (fun q o hq hv => ?_) fun s => by rw [nχ]; exact Nat.le_refl _)
    · rw [oχ q (fun e => by rw [e, hn] at hq; cases hq)]; exact hE.m q o hq
    · have hqj : q ≠ j := fun e => hv 0 l.length (by rw [e])
      refine ⟨by rw [oχ q hqj]; exact hq, fun a n e => ?_⟩
      injection e with e; exact hqj e.symm
  · have hr1 : ((k : Int) < (n1 : Int)) = True := eq_true (by omega)
    have hr2 : (k < n1) = True := eq_true (by omega)
    have hkk : k - l.length = 0 := by omega
    rw [hkk]
    (try ((first | with_reducible refine zh ?_ | with_reducible refine zm ?_ | with_reducible refine zo ?_); simp [w1, hr1, hr2]))
    iterate 2 (first | ((first | refine zd ?_ | refine zg ?_ | refine dN (by decide +kernel) ?_ | refine dC (by decide +kernel) ?_ | (refine za ?_ ?_ <;> (intro hg; simp only [hg])) | fail) <;> simp [-cellOK, w1, hr1, hr2]) | refine zf ?_ | refine zc ?_ | (refine zp ?_; simp only [zq]; try simp) | (refine zb (fun hc => ?_) (fun hc => ?_) <;> try simp at hc) | fail)
    rw [List.replicate_zero, List.append_nil]
    generalize hτ : St.set _ _ _ = τ
    have mτ : τ.m j = some (.bufx (l.map zE)) := by rw [← hτ, zbC hmj]
    have oτ : ∀ q, q ≠ j → τ.m q = σ.m q := fun q hq => by rw [← hτ, zbg hq]
    have nτ : ∀ s, τ.nx s = σ.nx s := fun s => by rw [← hτ]; rfl
    clear hτ hms hmo
    have hiq : i + q = n1 := by omega
    repeat (refine zf ?_)
    refine zeZ 8 rfl rfl ?_
    dsimp only [List.take, List.drop]
    simp [hj, w1, w2, hX0, hi]
    refine zmg (e := 73) (len := i) (q := q) (ki := .i64) (kq := .i64) (i := j) (by simp) (by kernel_rfl) zo9 zpa zpb rfl (by decide) (by decide) hj (by simp) (by simp) mτ (by simp; omega) (by simp; omega) (by rw [hiq]; omega) ?_
    rw [hiq]
    generalize hF0 : (l.map zE).take i ++ List.replicate q _ = F0
    have hF0l : F0.length = n1 := by rw [← hF0]; simp; omega
    generalize hρ : τ.new _ _ _ = ρ
    obtain ⟨j2, hj2⟩ : ∃ j2, (⟨(some 40).getD 0, τ.nx ((some 40).getD 0), 7⟩ : Id) = j2 := ⟨_, rfl⟩
    have f2 : τ.m j2 = none := by rw [← hj2]; exact zk _ _ _
    have s2 : j2.sz = 7 := by rw [← hj2]
    have mρ2 : ρ.m j2 = some (.buf F0) := by rw [← hρ, ← hj2]; exact zdm
    have mρ : ρ.m j = some (.bufx (l.map zE)) := by rw [← hρ]; exact zaP _ _ mτ
    have hjj : j ≠ j2 := fun e => by rw [← e, mτ] at f2; cases f2
    have hkj2 : kk ≠ j2 := fun e => by rw [← e, oτ _ hvj, hm] at f2; cases f2
    have f2σ : σ.m j2 = none := by rw [← oτ _ (Ne.symm hjj)]; exact f2
    have oρ : ∀ q o, q ≠ j → σ.m q = some o → ρ.m q = some o := fun q o hq h => by rw [← hρ]; exact zaP _ _ (by rw [oτ q hq]; exact h)
    have nρ : ∀ s, σ.nx s ≤ ρ.nx s := fun s => by rw [← hρ, ← nτ]; exact St.new_le _ _ _ _ _
    rw [hj2]
    clear hρ hj2 mτ oτ nτ f2
    (try ((first | with_reducible refine zh ?_ | with_reducible refine zm ?_ | with_reducible refine zo ?_); simp))
    refine zf ?_
    refine zkb mρ ?_
    generalize hπ : ρ.set j _ = π
    have mπ2 : π.m j2 = some (.buf F0) := by rw [← hπ, zbg (Ne.symm hjj)]; exact mρ2
    have mπ : π.m j = some (.buf (l.map zE)) := by rw [← hπ, zbC mρ]
    have oπ : ∀ q o, q ≠ j → σ.m q = some o → π.m q = some o := fun q o hq h => by rw [← hπ, zbg hq]; exact oρ q o hq h
    have nπ : ∀ s, σ.nx s ≤ π.nx s := fun s => by rw [← hπ]; exact nρ s
    clear hπ mρ mρ2 oρ nρ
    have hc1 : zbf j2 0 i n1 = .rs j2 i (n1 - i) := by unfold zbf; rw [if_pos (by omega), Nat.zero_add]
    have hc2 : zbf j2 0 i1 n1 = .rs j2 i1 (n1 - i1) := by unfold zbf; rw [if_pos (by omega), Nat.zero_add]
    have hin1 : i ≤ n1 := by omega
    have hi1n : i1 ≤ n1 := by omega
    have hx2 : zaH π.m (.rs kk 0 1) = some [zE r] := by simp only [zaH, oπ kk _ hvj hm]; rfl
    have ht1 : ([zE r] : List AV).take (n1 - i) = [zE r] := List.take_of_length_le (by simp; omega)
    iterate 1 (first | ((first | refine zd ?_ | refine zg ?_ | refine dN (by decide +kernel) ?_ | refine dC (by decide +kernel) ?_ | (refine za ?_ ?_ <;> (intro hg; simp only [hg])) | fail) <;> simp [-cellOK, hj, s2, hin1, hc1]) | refine zf ?_ | refine zc ?_ | (refine zp ?_; simp only [zq]; try simp) | (refine zb (fun hc => ?_) (fun hc => ?_) <;> try simp at hc) | fail)
    refine zfi zce mπ2 s2 hx2 (.inr hks) (by rw [ht1]; have := zV r; simpa [z8, zM] using this) (by omega) ?_
    rw [ht1, show min [zE r].length (n1 - i) = 1 by simp; omega]
    generalize hF1 : F0.take i ++ [zE r] ++ F0.drop (i + 1) = F1
    have hF1l : F1.length = n1 := by rw [← hF1]; simp; omega
    generalize hχ : π.set j2 _ = χ
    have mχ2 : χ.m j2 = some (.buf F1) := by rw [← hχ, zbC mπ2]
    have mχ : χ.m j = some (.buf (l.map zE)) := by rw [← hχ, zbg hjj]; exact mπ
    have oχ : ∀ q o, q ≠ j → σ.m q = some o → χ.m q = some o := fun q o hq h => by rw [← hχ, zbg (fun e => by rw [e, f2σ] at h; cases h)]; exact oπ q o hq h
    have nχ : ∀ s, σ.nx s ≤ χ.nx s := fun s => by rw [← hχ]; exact nπ s
    clear hχ mπ mπ2 oπ nπ hx2
    have hy1 : zaH χ.m (.rs j i (l.length - i)) = some ((l.drop i).map zE) := by
      simp only [zaH, mχ]; rw [if_pos (by simp; omega), ← List.map_drop, List.take_of_length_le (by simp)]
    have hd1 : ((l.drop i).map zE).take (n1 - i1) = (l.drop i).map zE := List.take_of_length_le (by simp; omega)
    (try ((first | with_reducible refine zh ?_ | with_reducible refine zm ?_ | with_reducible refine zo ?_); simp))
    iterate 2 (first | ((first | refine zd ?_ | refine zg ?_ | refine dN (by decide +kernel) ?_ | refine dC (by decide +kernel) ?_ | (refine za ?_ ?_ <;> (intro hg; simp only [hg])) | fail) <;> simp [-cellOK, hj, s2, hin1, hi1n, hi, hc1, hc2, hX, w3]) | refine zf ?_ | refine zc ?_ | (refine zp ?_; simp only [zq]; try simp) | (refine zb (fun hc => ?_) (fun hc => ?_) <;> try simp at hc) | fail)
    refine zfi zce mχ2 s2 hy1 (.inr hj) (by rw [hd1]; exact ziV _) (by omega) ?_
    have hm2 : min ((l.drop i).map zE).length (n1 - i1) = n1 - i1 := by rw [List.length_map, List.length_drop]; omega
    rw [hd1, hm2, show i1 + (n1 - i1) = n1 by omega, List.drop_of_length_le (i := n1) (l := F1) (by omega), List.append_nil]
    have hfin : F1.take i1 ++ (l.drop i).map zE = (l.take i ++ r :: l.drop i).map zE := by
      have a1 : F0.take i = (l.map zE).take i := by rw [← hF0, List.take_left' (by simp; omega)]
      have a2 : F1.take i1 = (l.map zE).take i ++ [zE r] := by
        rw [← hF1, List.take_left' (by simp; omega), a1]
      rw [zlI, a2, List.map_drop, List.append_assoc]
      rfl
    rw [hfin]
    generalize hψ : χ.set j2 _ = ψ
    have mψ : ψ.m j2 = some (.buf ((l.take i ++ r :: l.drop i).map zE)) := by rw [← hψ, zbC mχ2]
    have oψ : ∀ q o, q ≠ j → σ.m q = some o → ψ.m q = some o := fun q o hq h => by rw [← hψ, zbg (fun e => by rw [e, f2σ] at h; cases h)]; exact oχ q o hq h
    have nψ : ∀ s, σ.nx s ≤ ψ.nx s := fun s => by rw [← hψ]; exact nχ s
    clear hψ mχ mχ2 oχ nχ
    (try ((first | with_reducible refine zh ?_ | with_reducible refine zm ?_ | with_reducible refine zo ?_); simp))
    (try ((first | with_reducible refine zh ?_ | with_reducible refine zm ?_ | with_reducible refine zo ?_); simp [-cellOK, hj])); repeat' (first | ((first | refine zd ?_ | refine zg ?_ | refine dN (by decide +kernel) ?_ | refine dC (by decide +kernel) ?_ | (refine za ?_ ?_ <;> (intro hg; simp only [hg])) | fail) <;> simp [-cellOK, hj]) | refine zf ?_ | refine zc ?_ | (refine zp ?_; simp only [zq]; try simp) | (refine zb (fun hc => ?_) (fun hc => ?_) <;> try simp at hc) | fail)
    have hll : ((l.take i ++ r :: l.drop i).map zE).length = n1 := by simp; omega
    have hn2 : σ0.m j2 = none := by
      cases h : σ0.m j2 with
      | none => rfl
      | some o => rw [hE.m _ _ h] at f2σ; cases f2σ
    refine zbH (x := .rs j2 0 n1) (.inr rfl) (by simp) (hK _ ψ (OwnL.of s2 mψ hn2 hll.symm) ⟨fun q o hq => ?_, fun s => Nat.le_trans (hE.nx s) (nψ s)⟩ (fun q o hq hv => ?_) nψ)
    · exact oψ q o (fun e => by rw [e, hn] at hq; cases hq) (hE.m q o hq)
    · have hqj : q ≠ j := fun e => hv 0 l.length (by rw [e])
      refine ⟨oψ q o hqj hq, fun a n e => ?_⟩
      injection e with e; rw [← e, f2σ] at hq; cases hq
end Go.Proofs.YtanimmdlgmkmkaaGreat.Av
namespace Go.Proofs.YtanimmdlgmkmkaaGreat.Av
open Go
set_option linter.unusedSimpArgs false
set_option linter.unusedVariables false
set_option maxRecDepth 100000
set_option maxHeartbeats 4000000
set_option pp.maxSteps 600
theorem zmi {P : Program} {f : FuncId} {a b : AV} {n : Nat} {fl : Bool} {σ : St} {K : AV → St → Prop} (h : ∀ base cap, ACalls P f [.agg [a, b, .raw (.slice base 0 cap)]] σ K) : ACalls P f [.agg [a, b, .sl n [] fl]] σ K := by
  refine ⟨(h none 0).1, fun S vs hS hl => ?_⟩
  simp only [LRel, VRel] at hl
  obtain ⟨v, l, rfl, ⟨cs, rfl, v1, l1, e1, h1, v2, l2, rfl, h2, v3, l3, rfl, ⟨base, cap, rfl, -, -, -⟩, rfl⟩, rfl⟩ := hl
  refine (h base cap).2 S _ hS ?_
  simp only [LRel, VRel]
  exact ⟨_, _, rfl, ⟨cs, rfl, v1, _, e1, h1, v2, _, rfl, h2, _, _, rfl, by simp, rfl⟩, rfl⟩
theorem zjF (cap : Nat) : PCalls Tryz.prog 129 [.raw (.slice none 0 cap)] (.sl 0 [] true) := by
  refine zJ Tryz.func129 rfl (N := 8) rfl rfl (by simp) (by simp [noIds]) fun σ => ?_
  (try ((first | with_reducible refine zh ?_ | with_reducible refine zm ?_ | with_reducible refine zo ?_); simp [-cellOK])); repeat' (first | ((first | refine zd ?_ | refine zg ?_ | refine dN (by decide +kernel) ?_ | refine dC (by decide +kernel) ?_ | (refine za ?_ ?_ <;> (intro hg; simp only [hg])) | fail) <;> simp [-cellOK]) | refine zf ?_ | refine zc ?_ | (refine zp ?_; simp only [zq]; try simp) | (refine zl (by simp) ?_; simp) | (refine zD (by simp) (by simp [noIds]) (by repeat (first | assumption | exact Ext.refl _ | refine zv ?_ | refine Ext.setF ?_ (by first | assumption | (simp [ze, St.set, zk]; done) | exact zt (by assumption)))) ?_; simp [-cellOK, zS]) | (refine zb (fun hc => ?_) (fun hc => ?_) <;> try simp at hc) | fail)
theorem zjG (b : Addr) (cap : Nat) : MCalls Tryz.prog 129 [.raw (.slice (some b) 0 cap)] 7 (.buf []) fun i => .rs i 0 0 := by
  refine ziR (es := []) (by simp [z9]) fun σ => ?_
  refine zeC Tryz.func129 rfl (N := 8) rfl rfl (by simp) ?_
  (try ((first | with_reducible refine zh ?_ | with_reducible refine zm ?_ | with_reducible refine zo ?_); simp [-cellOK, zz, ze, zaH, z8, zM])); repeat' (first | ((first | refine zd ?_ | refine zg ?_ | refine dN (by decide +kernel) ?_ | refine dC (by decide +kernel) ?_ | (refine za ?_ ?_ <;> (intro hg; simp only [hg])) | fail) <;> simp [-cellOK, zz, ze, zaH, z8, zM]) | refine zf ?_ | refine zc ?_ | (refine zp ?_; simp only [zq]; try simp) | (refine zb (fun hc => ?_) (fun hc => ?_) <;> try simp at hc) | fail)
  refine zbH (x := .rs ⟨7, σ.nx 7, 7⟩ 0 0) (.inr rfl) (by simp) ⟨⟨7, σ.nx 7, 7⟩, rfl, rfl, by simp [zz, ze, St.del], zk _ _ _, ?_⟩
  exact zv (Ext.mk (fun i o h => by
    have q : i ≠ ⟨5, σ.nx 5, 7⟩ := fun e => by rw [e, zk] at h; cases h
    rw [zR q]; exact zaP _ _ h) fun s => by simp only [zqa]; exact St.new_le _ _ _ _ _)
theorem znd (n : Nw) (f : Fl) (hn : NwOK n) {σ : St} {K : AV → St → Prop} (hK : ∀ v τ, OwnL σ τ 7 v (n.rules.map zE) → Ext σ τ → K (.agg [zy n.t.ports false, zw n.t.links false, v]) τ) :
    ACalls Tryz.prog 75 [z7 n f] σ K := by
  by_cases hne : n.rules = []
  · unfold z7
    rw [hne] at hK ⊢
    refine zmi fun base cap => ?_
    have h1 := zd0 n.t.ports f.p hn.ports
    have h2 := zep n.t.links f.l hn.links
    have c1 : (zy n.t.ports false).cells = [zy n.t.ports false] := rfl
    have c2 : (zw n.t.links false).cells = [zw n.t.links false] := rfl
    refine zeC Tryz.func75 rfl (N := 16) rfl rfl (by simp) ?_
    cases base with
    | none =>
      have h3 := zjF cap
      (try ((first | with_reducible refine zh ?_ | with_reducible refine zm ?_ | with_reducible refine zo ?_); simp [-cellOK, c1, c2, zz, zB, ze])); repeat' (first | ((first | refine zd ?_ | refine zg ?_ | refine dN (by decide +kernel) ?_ | refine dC (by decide +kernel) ?_ | refine uP (h1) ?_ | refine .inl ⟨_, .inl (h1), ?_⟩ | refine uP (h2) ?_ | refine .inl ⟨_, .inl (h2), ?_⟩ | refine uP (h3) ?_ | refine .inl ⟨_, .inl (h3), ?_⟩ | (refine za ?_ ?_ <;> (intro hg; simp only [hg])) | fail) <;> simp [-cellOK, c1, c2, zz, zB, ze]) | refine zf ?_ | refine zc ?_ | (refine zp ?_; simp only [zq]; try simp) | (refine zb (fun hc => ?_) (fun hc => ?_) <;> try simp at hc) | fail)
      exact zbH (x := .agg [zy n.t.ports false, zw n.t.links false, .sl 0 [] true]) (.inr rfl) (by simp [zz, zB, ze]) (hK _ _ (.inl ⟨rfl, rfl⟩) (by repeat (first | assumption | exact Ext.refl _ | refine zv ?_ | refine Ext.setF ?_ (by first | assumption | (simp [ze, St.set, zk]; done) | exact zt (by assumption)))))
    | some b =>
      have h3 := zjG b cap
      (try ((first | with_reducible refine zh ?_ | with_reducible refine zm ?_ | with_reducible refine zo ?_); simp [-cellOK, c1, c2, zz, zB, ze])); repeat' (first | ((first | refine zd ?_ | refine zg ?_ | refine dN (by decide +kernel) ?_ | refine dC (by decide +kernel) ?_ | refine uP (h1) ?_ | refine .inl ⟨_, .inl (h1), ?_⟩ | refine uP (h2) ?_ | refine .inl ⟨_, .inl (h2), ?_⟩ | (refine za ?_ ?_ <;> (intro hg; simp only [hg])) | fail) <;> simp [-cellOK, c1, c2, zz, zB, ze]) | refine zf ?_ | refine zc ?_ | (refine zp ?_; simp only [zq]; try simp) | (refine zb (fun hc => ?_) (fun hc => ?_) <;> try simp at hc) | fail)
      refine .inr ⟨_, _, _, h3, ?_⟩
      (try ((first | with_reducible refine zh ?_ | with_reducible refine zm ?_ | with_reducible refine zo ?_); simp [-cellOK, c1, c2, zz, zB, ze])); repeat' (first | ((first | refine zd ?_ | refine zg ?_ | refine dN (by decide +kernel) ?_ | refine dC (by decide +kernel) ?_ | (refine za ?_ ?_ <;> (intro hg; simp only [hg])) | fail) <;> simp [-cellOK, c1, c2, zz, zB, ze]) | refine zf ?_ | refine zc ?_ | (refine zp ?_; simp only [zq]; try simp) | (refine zb (fun hc => ?_) (fun hc => ?_) <;> try simp at hc) | fail)
      refine zbH (x := .agg [zy n.t.ports false, zw n.t.links false, .rs ⟨14, σ.nx 14, 7⟩ 0 0]) (.inr rfl) (by simp [zz, zB, ze]) (hK _ _ (OwnL.of rfl (by simp [zz, zB, ze]) (zk _ _ _) (by simp)) (by repeat (first | assumption | exact Ext.refl _ | refine zv ?_ | refine Ext.setF ?_ (by first | assumption | (simp [ze, St.set, zk]; done) | exact zt (by assumption)))))
  · exact zi4 n f hn hne hK
end Go.Proofs.YtanimmdlgmkmkaaGreat.Av
namespace Go.Proofs.YtanimmdlgmkmkaaGreat.Av
open Go
set_option linter.unusedSimpArgs false
set_option linter.unusedVariables false
set_option maxRecDepth 100000
set_option maxHeartbeats 4000000
set_option pp.maxSteps 600
theorem zfj {L : Lab} {n : Nw} (h : LabRep L n) (r : Ru) (hh : zaF n.rules r.id = true) :
    PCalls Tryz.prog 37 [zP (some L), zE r] (.tup [.raw (.pointer none), .raw (.int .i64 142)]) := by
  have hf := zeG L r.id (by rw [h.net]; have := h.ok.rules; omega) (by rw [h.net]; exact zcv h.right)
  rw [h.net, hh] at hf
  refine zJ Tryz.func37 rfl (N := 52) rfl rfl (by simp) (by simp [noIds]) fun σ => ?_
  (try ((first | with_reducible refine zh ?_ | with_reducible refine zm ?_ | with_reducible refine zo ?_); simp [-cellOK, zP, zap, zs, zz, zB, ze])); repeat' (first | ((first | refine zd ?_ | refine zg ?_ | refine dN (by decide +kernel) ?_ | refine dC (by decide +kernel) ?_ | refine uP (hf) ?_ | refine .inl ⟨_, .inl (hf), ?_⟩ | (refine za ?_ ?_ <;> (intro hg; simp only [hg])) | fail) <;> simp [-cellOK, zP, zap, zs, zz, zB, ze]) | refine zf ?_ | refine zc ?_ | (refine zp ?_; simp only [zq]; try simp) | (refine zl (by simp) ?_; simp) | (refine zD (by simp) (by simp [noIds]) (by repeat (first | assumption | exact Ext.refl _ | refine zv ?_ | refine Ext.setF ?_ (by first | assumption | (simp [ze, St.set, zk]; done) | exact zt (by assumption)))) ?_; simp [-cellOK, zP, zap, zs, zz, zB, ze, zS]) | (refine zb (fun hc => ?_) (fun hc => ?_) <;> try simp at hc) | fail)
def zgp (L : Lab) (n : Nw) (r : Ru) : AV := if zaq (zbl n r) = true then .tup [zP (some (zfM L n r)), .raw (.int .i64 0)] else .tup [.raw (.pointer none), .raw (.int .i64 71)]
theorem zo1 (L : Lab) (n : Nw) (r : Ru) : noIds (zgp L n r) := by
  have hids := zb4 (fun _ => False) (some (zfM L n r))
  unfold zgp
  split <;> simp [noIds, hids]
theorem zhc {L : Lab} {n : Nw} (h : LabRep L n) (r : Ru) (hr : RuOK r) (hh : zaF n.rules r.id = false) :
    PCalls Tryz.prog 37 [zP (some L), zE r] (zgp L n r) := by
  have hf := zeG L r.id (by rw [h.net]; have := h.ok.rules; omega) (by rw [h.net]; exact zcv h.right)
  rw [h.net, hh] at hf
  have hlen40 := (zbe h.right).2
  have hok' := zlx h.ok hlen40 hr
  have hfr := zg2 (zbl n r) flN (by have := h.ok.ports; exact Nat.lt_trans this (by decide)) h.ok.links hok'.rules
  have hq : zaq (zbl n r) = true → PCalls Tryz.prog 77 [zaj L.t, zau r.r] (.tup [zaj (zcE L.t r.r).1, .raw (.int .i64 (zcE L.t r.r).2)]) ∧
      PCalls Tryz.prog 91 [zP (some L), z7 (zbl n r) flN, zaj (zcE L.t r.r).1, .raw (.int .i64 r.dev)] (zP (some (zfM L n r))) := fun hR => by
    obtain ⟨q1, q2, q3, q5⟩ := zmw h hr hR
    have hrep := zeH h hr hR
    obtain ⟨hpos, hp8⟩ := zel h.right
    refine ⟨zj1 L.t r.r fun _ _ => q2, ?_⟩
    exact zhK L (zbl n r) (zcE L.t r.r).1 r.dev hrep.ok hpos hp8 (zdp q5 hrep.right) (zdp h.rep h.right) fun d hd => ⟨_, zgn h hd, fun i hi => zlq h hrep.ok q5 i hi⟩
  have hLn := h.net
  have hok := h.ok
  have hids := zo1 L n r
  have hA1 : zaq (zbl n r) = true → zgp L n r = .tup [zP (some (zfM L n r)), .raw (.int .i64 0)] := fun e => if_pos e
  have hA2 : zaq (zbl n r) = false → zgp L n r = .tup [.raw (.pointer none), .raw (.int .i64 71)] := fun e => if_neg (by simp [e])
  have hnn : zbl n r = ⟨n.t, n.rules.take (zW n.rules r.id) ++ r :: n.rules.drop (zW n.rules r.id)⟩ := rfl
  have hpl := zcG n.rules r.id
  generalize (zcE L.t r.r).1 = T' at *
  generalize (zcE L.t r.r).2 = eT at *
  generalize zfM L n r = R at *
  generalize zgp L n r = RA at *
  generalize zW n.rules r.id = p at *
  generalize zbl n r = n' at *
  have hfl : AV.agg [zy L.n.t.ports false, zw L.n.t.links false, zu L.n.rules false] = z7 n flN := by rw [hLn]; rfl
  refine zJ Tryz.func37 rfl (N := 52) rfl rfl (by simp) hids fun σ => ?_
  have f3 : σ.m ⟨3, σ.nx 3, 7⟩ = none := zk _ _ _
  (try ((first | with_reducible refine zh ?_ | with_reducible refine zm ?_ | with_reducible refine zo ?_); simp [-cellOK, zP, zap, hfl, zs, zz, zB, ze])); repeat' (first | ((first | refine zd ?_ | refine zg ?_ | refine dN (by decide +kernel) ?_ | refine dC (by decide +kernel) ?_ | refine uP (hf) ?_ | refine .inl ⟨_, .inl (hf), ?_⟩ | (refine za ?_ ?_ <;> (intro hg; simp only [hg])) | fail) <;> simp [-cellOK, zP, zap, hfl, zs, zz, zB, ze]) | refine zf ?_ | refine zc ?_ | (refine zp ?_; simp only [zq]; try simp) | (refine zb (fun hc => ?_) (fun hc => ?_) <;> try simp at hc) | fail)
  refine znd n flN hok fun v τ hO hE => ?_
  have m3 : τ.m ⟨3, σ.nx 3, 7⟩ = some (.buf [zE r]) := hE.m _ _ zdm
  have hv3 : ∀ a k, v ≠ .rs ⟨3, σ.nx 3, 7⟩ a k := fun a k e => by
    rcases hO with ⟨_, rfl⟩ | ⟨j, rfl, h2, h3, h4⟩
    · cases e
    · injection e with e; rw [e, zdm] at h4; cases h4
  have hO : OwnL σ τ 7 v (n.rules.map zE) := by
    rcases hO with hO | ⟨j, h1, h2, h3, h4⟩
    · exact .inl hO
    · refine .inr ⟨j, h1, h2, h3, ?_⟩
      cases q : σ.m j with
      | none => rfl
      | some o => rw [zaP _ _ q] at h4; cases h4
  have hE : Ext σ τ := (Ext.new σ _ _ _).trans hE
  obtain ⟨i3, hi3⟩ : ∃ i, (⟨3, σ.nx 3, 7⟩ : Id) = i := ⟨_, rfl⟩
  rw [hi3] at m3 f3 hv3
  try rw [hi3]
  have hcv : v.cells = [v] := by rcases hO with ⟨_, rfl⟩ | ⟨j, rfl, _⟩ <;> rfl
  have hcv2 : cellOK v = true := by rcases hO with ⟨_, rfl⟩ | ⟨j, rfl, _⟩ <;> rfl
  have c1 : (zy n.t.ports false).cells = [zy n.t.ports false] := rfl
  have c2 : (zw n.t.links false).cells = [zw n.t.links false] := rfl
  have g8 : τ.m ⟨8, τ.nx 8, 3⟩ = none := zk _ _ _
  have g30 : τ.m ⟨30, τ.nx 30, 7⟩ = none := zk _ _ _
  have n38 : ∀ k, i3 ≠ ⟨8, k, 3⟩ := fun k e => by rw [← hi3] at e; simp at e
  have n330 : i3 ≠ ⟨30, τ.nx 30, 7⟩ := fun e => by rw [e, g30] at m3; cases m3
  (try ((first | with_reducible refine zh ?_ | with_reducible refine zm ?_ | with_reducible refine zo ?_); simp [-cellOK, zP, zap, zz, zB, ze, c1, c2, hcv, hcv2, zs, m3, n38])); repeat' (first | ((first | refine zd ?_ | refine zg ?_ | refine dN (by decide +kernel) ?_ | refine dC (by decide +kernel) ?_ | (refine za ?_ ?_ <;> (intro hg; simp only [hg])) | fail) <;> simp [-cellOK, zP, zap, zz, zB, ze, c1, c2, hcv, hcv2, zs, m3, n38]) | refine zf ?_ | refine zc ?_ | (refine zp ?_; simp only [zq]; try simp) | (refine zb (fun hc => ?_) (fun hc => ?_) <;> try simp at hc) | fail)
  have hvn : ∀ q, τ.m q = none → ∀ a k, v ≠ .rs q a k := fun q hq a k e => by
    rcases hO with ⟨_, rfl⟩ | ⟨j, rfl, h2, h3, h4⟩
    · cases e
    · injection e with e; rw [e, hq] at h3; cases h3
  refine zjE (σ0 := σ) (l := n.rules) (r := r) (i := p) hpl (by omega) (hO.ext (by repeat (first | assumption | exact Ext.refl _ | refine zv ?_ | refine Ext.setF ?_ (by first | assumption | (simp [ze, St.set, zk]; done) | exact zt (by assumption))))) (by repeat (first | assumption | exact Ext.refl _ | refine zv ?_ | refine Ext.setF ?_ (by first | assumption | (simp [ze, St.set, zk]; done) | exact zt (by assumption)))) (by simp [zz, ze]; rfl) rfl (hvn _ g30) fun v' τ2 hO2 hE2 hk2 hn2 => ?_
  rcases hO2 with ⟨e, _⟩ | ⟨j, rfl, hj, hm, hn⟩
  · simp at e
  have e8 := hk2 ⟨8, τ.nx 8, 3⟩ (.buf [.agg [zy n.t.ports false, zw n.t.links false, v]]) (by simp [zz, ze]) (hvn _ g8)
  have e3 := hk2 i3 (.buf [zE r]) (zaP _ _ (zaP _ _ m3)) hv3
  obtain ⟨e8, j8⟩ := e8
  obtain ⟨e3, j3⟩ := e3
  have j8 : j ≠ ⟨8, τ.nx 8, 3⟩ := fun e => j8 0 _ (by rw [e])
  have j3 : j ≠ i3 := fun e => j3 0 _ (by rw [e])
  have s8 : σ.m ⟨8, τ.nx 8, 3⟩ = none := zt hE
  have i83 : (⟨8, τ.nx 8, 3⟩ : Id) ≠ i3 := Ne.symm (n38 _)
  have hll : ((n.rules.take p ++ r :: n.rules.drop p).map zE).length = n.rules.length + 1 := by simp; omega
  rw [hll]
  clear hk2 hn2 hvn g8 g30 n38 n330 hO hE m3 hv3
  generalize (⟨8, τ.nx 8, 3⟩ : Id) = i8 at *
  (try ((first | with_reducible refine zh ?_ | with_reducible refine zm ?_ | with_reducible refine zo ?_); simp [zP, zap, e8, e3, i83]))
  generalize hπ : τ2.set i8 _ = π
  have p8 : π.m i8 = some (.buf [.agg [zy n.t.ports false, zw n.t.links false, .rs j 0 (n.rules.length + 1)]]) := by rw [← hπ, zbC e8]
  have p3 : π.m i3 = some (.buf [zE r]) := by rw [← hπ, zbg (Ne.symm i83)]; exact e3
  have pj : π.m j = some (.buf ((n.rules.take p ++ r :: n.rules.drop p).map zE)) := by rw [← hπ, zbg j8]; exact hm
  have hE3 : Ext σ π := by rw [← hπ]; exact Ext.setF hE2 s8
  clear hπ e8 e3 hm hE2
  generalize hA : put 52 _ _ _ = A
  have a0 : A 0 = zP (some L) := by rw [← hA]; simp [zP, zap]
  have a8 : A 8 = .rp i8 0 0 := by rw [← hA]; simp
  have a3 : A 3 = .rp i3 0 0 := by rw [← hA]; simp
  clear hA
  refine zaf i8 ?_
  refine zde j ?_
  refine zaf i3 ?_
  have g1 : ∀ (m m' : zX) l b, zF m' m (zy l b) = zy l b := fun _ _ _ _ => rfl
  have g2 : ∀ (m m' : zX) l b, zF m' m (zw l b) = zw l b := fun _ _ _ _ => rfl
  have fin : ((π.del i8).del j).m i3 = some (.buf [zE r]) := by rw [zR (Ne.symm j3), zR (Ne.symm i83)]; exact p3
  have b8 : zF (((π.del i8).del j).del i3).m ((π.del i8).del j).m (zaA ((π.del i8).del j).m (π.del i8).m (zF (π.del i8).m π.m (A 8))) = .pp (z7 n' flN).cells 0 := by
    rw [a8, za3 (by simp [St.del]) p8 rfl]
    simp only [zaA, AV.cells, List.map_cons, List.map_nil, g1, g2]
    rw [zbI (by simp [St.del]) (by rw [zR j8]; exact pj) (by rw [hll]; omega), hj]
    simp only [zF, hnn, zr, zu, flN, List.drop_zero]
    congr 4
    rw [← hll, List.take_length]
    rfl
  have b3 : zF (((π.del i8).del j).del i3).m ((π.del i8).del j).m (zaA ((π.del i8).del j).m (π.del i8).m (zF (π.del i8).m π.m (A 3))) = .pp (zE r).cells 0 := by
    rw [a3, zb3 (Ne.symm i83)]
    simp only [zaA]
    rw [zb3 (Ne.symm j3), za3 (by simp [St.del]) fin rfl]
  have b0 : zF (((π.del i8).del j).del i3).m ((π.del i8).del j).m (zaA ((π.del i8).del j).m (π.del i8).m (zF (π.del i8).m π.m (A 0))) = zP (some L) := by
    rw [a0]
    simp [zP, zap, zF, zaA, zy, zw, zu]
    cases L.t <;> rfl
  have hE4 : Ext σ (((π.del i8).del j).del i3) := by
    refine ⟨fun i o h => ?_, hE3.nx⟩
    rw [zR (fun e => by rw [e, f3] at h; cases h), zR (fun e => by rw [e, hn] at h; cases h), zR (fun e => by rw [e, s8] at h; cases h)]
    exact hE3.m i o h
  generalize hA' : (fun t => zF _ _ _) = A'
  have c0 : A' 0 = zP (some L) := by rw [← hA']; exact b0
  have c8 : A' 8 = .pp (z7 n' flN).cells 0 := by rw [← hA']; exact b8
  have c3 : A' 3 = .pp (zE r).cells 0 := by rw [← hA']; exact b3
  clear hA' b0 b8 b3 fin a0 a8 a3 p8 p3 pj hE3
  generalize ((π.del i8).del j).del i3 = ρ at *
  cases hR : zaq n' with
  | false =>
    rw [hR] at hfr
    rw [hA2 hR]
    (try ((first | with_reducible refine zh ?_ | with_reducible refine zm ?_ | with_reducible refine zo ?_); simp [-cellOK, c0, c8, c3, zP, zap, zr, zC, zs, zav])); repeat' (first | ((first | refine zd ?_ | refine zg ?_ | refine dN (by decide +kernel) ?_ | refine dC (by decide +kernel) ?_ | refine uP (hfr) ?_ | refine .inl ⟨_, .inl (hfr), ?_⟩ | (refine za ?_ ?_ <;> (intro hg; simp only [hg])) | fail) <;> simp [-cellOK, c0, c8, c3, zP, zap, zr, zC, zs, zav]) | refine zf ?_ | refine zc ?_ | (refine zp ?_; simp only [zq]; try simp) | (refine zl (by simp) ?_; simp) | (refine zD (by simp) (by simp [noIds]) (by repeat (first | assumption | exact Ext.refl _ | refine zv ?_ | refine Ext.setF ?_ (by first | assumption | (simp [ze, St.set, zk]; done) | exact zt (by assumption)))) ?_; simp [-cellOK, c0, c8, c3, zP, zap, zr, zC, zs, zav, zS]) | (refine zb (fun hc => ?_) (fun hc => ?_) <;> try simp at hc) | fail)
  | true =>
    obtain ⟨hadd, hwith⟩ := hq hR
    rw [hR] at hfr
    have hidR := zb4 (fun _ => False) (some R)
    rw [hA1 hR]
    (try ((first | with_reducible refine zh ?_ | with_reducible refine zm ?_ | with_reducible refine zo ?_); simp [-cellOK, c0, c8, c3, zP, zap, zr, zC, zs, zav])); repeat' (first | ((first | refine zd ?_ | refine zg ?_ | refine dN (by decide +kernel) ?_ | refine dC (by decide +kernel) ?_ | refine uP (hfr) ?_ | refine .inl ⟨_, .inl (hfr), ?_⟩ | refine uP (hadd) ?_ | refine .inl ⟨_, .inl (hadd), ?_⟩ | refine uP (hwith) ?_ | refine .inl ⟨_, .inl (hwith), ?_⟩ | (refine za ?_ ?_ <;> (intro hg; simp only [hg])) | fail) <;> simp [-cellOK, c0, c8, c3, zP, zap, zr, zC, zs, zav]) | refine zf ?_ | refine zc ?_ | (refine zp ?_; simp only [zq]; try simp) | (refine zl (by simp) ?_; simp) | (refine zD (by simp) (by simp [noIds]) (by repeat (first | assumption | exact Ext.refl _ | refine zv ?_ | refine Ext.setF ?_ (by first | assumption | (simp [ze, St.set, zk]; done) | exact zt (by assumption)))) ?_; simp [-cellOK, c0, c8, c3, zP, zap, zr, zC, zs, zav, zS]) | (refine zb (fun hc => ?_) (fun hc => ?_) <;> try simp at hc) | fail)
end Go.Proofs.YtanimmdlgmkmkaaGreat.Av
