/- Labels: LabelBack, LabelEdits. Part 10 of 17: AvX2. -/
import Derived.Test.YtanimmdlgmkmkaaGreatLb6
import Derived.Lib.AppendZerosOnto
namespace Go.Proofs.YtanimmdlgmkmkaaGreat.Av
open Go
set_option linter.unusedSimpArgs false
set_option linter.unusedVariables false
section
variable {P : Program} {σ : St} {r : Option Nat} {N : Nat} {A : zN}
theorem zi6 {S : Ctx} (hS : SRel σ S) {i : Id} {es : List AV} (hi : σ.m i = some (.bufx es)) : SRel (σ.set i (.buf es)) S := by
  have hn : ∀ j, (σ.set i (.buf es)).m j ≠ none → σ.m j ≠ none := fun j hj => by
    by_cases e : j = i
    · subst e; rw [hi]; simp
    · rwa [zag e] at hj
  refine SRelM.s (σ := σ.set i (.buf es)) ⟨fun j o hj => ?_, fun j j' h1 h2 e => hS.inj j j' (hn j h1) (hn j' h2) e⟩ hS.kn
  by_cases e : j = i
  · subst e
    rw [zdn, hi] at hj
    simp at hj; subst hj
    obtain ⟨h1, h2, h3, c, t, g1, g2, g3⟩ := hS.live j _ hi
    exact ⟨h1, h2, h3, c, t, g1, Nat.le_of_eq g2, g3⟩
  · rw [zag e] at hj; exact hS.live j o hj
theorem zkb {c : Code} {K : Exit → zN → St → Prop} {i : Id} {es : List AV} (hi : σ.m i = some (.bufx es)) (h : AWP P r N c K A (σ.set i (.buf es))) : AWP P r N c K A σ :=
  fun S a hS hT => h S a (zi6 hS hi) hT
theorem zn3 {S : Ctx} (hS : SRel σ S) {i : Id} {es : List AV} (hi : σ.m i = some (.buf es)) (k : Nat) : SRel (σ.set i (.buf (es.take k))) S := by
  have hn : ∀ j, (σ.set i (.buf (es.take k))).m j ≠ none → σ.m j ≠ none := fun j hj => by
    by_cases e : j = i
    · subst e; rw [hi]; simp
    · rwa [zag e] at hj
  refine SRelM.s (σ := σ.set i (.buf (es.take k))) ⟨fun j o hj => ?_, fun j j' h1 h2 e => hS.inj j j' (hn j h1) (hn j' h2) e⟩ hS.kn
  by_cases e : j = i
  · subst e
    rw [zdn, hi] at hj
    simp at hj; subst hj
    obtain ⟨h1, h2, h3, c, t, g1, g2, g3⟩ := hS.live j _ hi
    refine ⟨h1, h2, h3, c, t, g1, Nat.le_trans (Nat.mul_le_mul_right _ ?_) g2, g3.take k⟩
    rw [List.length_take]; omega
  · rw [zag e] at hj; exact hS.live j o hj
theorem zoV {c : Code} {K : Exit → zN → St → Prop} {i : Id} {es : List AV} (hi : σ.m i = some (.buf es)) (k : Nat) (h : AWP P r N c K A (σ.set i (.buf (es.take k)))) : AWP P r N c K A σ :=
  fun S a hS hT => h S a (zn3 hS hi k) hT
theorem zfi {τ : St} {slot : Nat} {t : TypeId} {n by_ off len : Nat} {x : AV} {j : Id} {es ys : List AV} {k : AV → St → Prop} (hT : SlT P t n by_) (hm : τ.m j = some (.buf es)) (hj : j.sz = n)
    (hx : zaH τ.m x = some ys) (hxs : ys = [] ∨ zdE x = n) (hc : z8 (zM (ys.take len)) = true) (hle : off + len ≤ es.length)
    (hk : k (.raw (.int .i64 (min ys.length len : Nat))) (τ.set j (.buf (es.take off ++ ys.take len ++ es.drop (off + min ys.length len))))) : OKr (zfC P τ.m t (.rs j off len) x) (Res.go slot τ k) := by
  obtain ⟨e, z, h1, h2, h3, h4, h5, h6, h7⟩ := hT.ex
  unfold zfC
  simp only [h1, h2, hx, hm]
  rw [if_pos hxs, if_pos ⟨hc, hj, hle⟩]
  exact hk
theorem zlB {S : Ctx} {b : Nat} {c : Array Value} {t : TypeId} {fz : Nat × Nat} (hb : S.w.heap[b]? = some (.cells c t fz)) : ∀ (n o : Nat), o + n ≤ c.size → CRel S (List.replicate n .any) b o
  | 0, _, _ => by simp [CRel]
  | n + 1, o, h => by
    simp only [List.replicate_succ, CRel]
    refine ⟨⟨c[o], ?_, by simp only [VRel]⟩, zlB hb n (o + 1) (by omega)⟩
    rw [zdA hb]; exact Array.getElem?_eq_getElem (by omega)
theorem zlC {S : Ctx} {b n : Nat} {c : Array Value} {t : TypeId} {fz : Nat × Nat} (hb : S.w.heap[b]? = some (.cells c t fz)) : ∀ (k o : Nat), o + k * n ≤ c.size → ERel S n (List.replicate k (.agg (List.replicate n .any))) b o
  | 0, _, _ => by simp [ERel]
  | k + 1, o, h => by
    rw [Nat.add_mul] at h
    rw [List.replicate_succ, zbD]
    exact ⟨by simp [AV.cells], zlB hb n o (by omega), zlC hb k (o + n) (by omega)⟩
theorem zn4 {t e : TypeId} {n : Nat} {dst : Option Nat} {x : Operand} {ty : TypeId} {pos : String} {aft : Array Edge} {K : AV → St → Prop} {i : Id} {off len : Nat} {es : List AV}
    (hu : zax P t = some e) (hn : i.sz = n) (hpos : 0 < n) (ax : zH A x = .rs i off len) (hm : σ.m i = some (.buf es))
    (hK : ∀ k : Nat, es.length ≤ off + k → len ≤ k → K (.raw (.int .i64 k)) (σ.set i (.bufx (es ++ List.replicate (off + k - es.length) (.agg (List.replicate n .any)))))) :
    SStep P ⟨dst, .call { callee := .builtin .cap, args := #[x], argTypes := #[t] }, ty, pos, aft, none⟩ A σ K := by
  refine ⟨fun c e => by simp at e, fun S ρ hS hρ hc => ?_⟩
  have hx := hρ x
  rw [ax] at hx
  simp only [VRel] at hx
  obtain ⟨cap, e1, e2, e3, e4, e5⟩ := hx
  obtain ⟨g1, g2, g3, c, tt, hb, hle, hE⟩ := hS.live i _ hm
  have hcs : cellsOf S.w (S.mu i) = c.size := zaC hb
  rw [hn] at e3 hle hE
  have hk : es.length ≤ off + cap := Nat.le_of_mul_le_mul_right (by omega) hpos
  refine ⟨.wro i _ (.raw (.int .i64 cap)), ⟨by rw [hm]; simp, .int .i64 cap, S, ?_, Ev.refl S, ⟨fun j o hj => ?_, fun j j' h1 h2 e => ?_⟩, rfl, by simp only [VRel]⟩, hK cap hk e2⟩
  · simp [execOp, resolve, invoke, builtin, Builtin.cap_, run_underlying (zcS hu), e1, goInt]
  · by_cases e : j = i
    · subst e
      simp only [zcy, if_true, Option.some.injEq] at hj; subst hj
      have hl : es.length + (off + cap - es.length) = off + cap := by omega
      refine ⟨g1, g2, g3, c, tt, hb, ?_, ?_⟩
      · rw [hn, List.length_append, List.length_replicate, hl, ← hcs, ← e3]
      · rw [hn]
        refine ERel.append hE (zlC hb _ _ ?_)
        rw [← hcs, ← e3, Nat.zero_add, ← Nat.add_mul, hl]
        exact Nat.le_refl _
    · simp only [zcy, if_neg e] at hj; exact hS.live j o hj
  · have hn : ∀ j, zcy σ.m i (.bufx (es ++ List.replicate (off + cap - es.length) (.agg (List.replicate n .any)))) j ≠ none → σ.m j ≠ none := fun j hj => by
      by_cases e : j = i
      · subst e; rw [hm]; simp
      · simpa only [zcy, if_neg e] using hj
    exact hS.inj j j' (hn j h1) (hn j' h2) e
theorem zkv {t e : TypeId} {n : Nat} {dst : Option Nat} {x hi : Operand} {ty : TypeId} {pos : String} {aft : Array Edge} {K : AV → St → Prop} {i : Id} {off len h : Nat} {es : List AV} {k2 : IntKind}
    (hu : zax P t = some e) (hs : tsz P e = some n) (hn : i.sz = n) (hpos : 0 < n) (ax : zH A x = .rs i off len) (ah : zH A hi = .raw (.int k2 h)) (hm : σ.m i = some (.buf es))
    (hb : off + h ≤ es.length) (hK : K (.rs i off h) σ) : SStep P ⟨dst, .slice t x none (some hi) none, ty, pos, aft, none⟩ A σ K := by
  refine ⟨fun c e => by simp at e, fun S ρ hS hρ hc => ⟨.val (.rs i off h), ?_, hK⟩⟩
  have h1 := hρ x
  have h3 := hρ hi
  rw [ax] at h1
  obtain ⟨_, hlt, _, c, tt, hb1, hle, _⟩ := hS.m.live i _ hm
  have hcs : cellsOf S.w (S.mu i) = c.size := zaC hb1
  simp only [VRel] at h1
  obtain ⟨cap, e1, e2, e3, e4, e5⟩ := h1
  have hcap : off + h ≤ off + cap := by
    have h1 : es.length * n ≤ (off + cap) * n := by rw [← hn]; omega
    have := Nat.le_of_mul_le_mul_right h1 hpos
    omega
  have hrun := ze9 (P := P) (S := S) (zcS hu) hs (lo := none) (hi := some (zH A hi)) (vlo := none) (vhi := some (ρ hi)) trivial h3 (a := some ⟨S.mu i, off * i.sz, none⟩) (len := len) (cap := cap) (l := 0) (h := h)
    (by simp [bnd]) (by rw [ah]; simp [bnd]) (Nat.zero_le _) (by omega)
  refine ⟨.slice (some ⟨S.mu i, off * i.sz, none⟩) h cap, ?_, ?_⟩
  · simp only [execOp, Option.map_some, Option.map_none]
    rw [e1]
    by_cases hc0 : cap = 0
    · subst hc0
      simp at hrun
      have : h = 0 := by omega
      subst this
      simp [hrun]
    · simp only [hc0, if_false, Option.map_some, zbB] at hrun
      simp at hrun
      simp [hrun]
  · simp only [VRel]
    exact ⟨_, rfl, by omega, e3, e4, e5⟩
theorem zmg {t u e : TypeId} {ki kq : IntKind} {n by_ : Nat} {z : Value} {dst : Option Nat} {x y : Operand} {ty : TypeId} {pos : String} {aft : Array Edge} {K : AV → St → Prop} {i : Id} {len q : Nat} {es : List AV}
    (hu : zax P t = some e) (huu : P.underlying u = some (.int ki)) (hs : tsz P e = some n) (hb : zao P e = some by_) (hz : zan P e = some z) (hzn : (z0 z).cells.length = n) (hpos : 0 < n) (hbp : 0 < by_)
    (hn : i.sz = n) (ax : zH A x = .rs i 0 len) (ay : zH A y = .raw (.int kq q)) (hm : σ.m i = some (.bufx es)) (hlen : len ≤ es.length) (hq : es.length < len + q) (hbig : (len + q) * by_ ≤ 2 ^ 47)
    (hK : K (.rs ⟨dst.getD 0, σ.nx (dst.getD 0), n⟩ 0 (len + q)) (σ.new (dst.getD 0) n (.buf (es.take len ++ List.replicate q (z0 z))))) :
    SStep P ⟨dst, .call { callee := .builtin .append, args := #[x, y], argTypes := #[t, u] }, ty, pos, aft, none⟩ A σ K := by
  refine ⟨fun c e => by simp at e, fun S ρ hS hρ hc => ⟨.mk n (es.take len ++ List.replicate q (z0 z)) fun j => .rs j 0 (len + q), ?_, hK⟩⟩
  intro i' hisz hi'
  have hut := zcS hu
  have hx := hρ x
  have hy := hρ y
  rw [ax] at hx
  rw [ay] at hy
  have hx' := hx
  simp only [VRel] at hx hy
  obtain ⟨cap, e1, e2, e3, e4, e5⟩ := hx
  obtain ⟨g1, g2, g3, c, tt, hbk, hle, hE⟩ := hS.live i _ hm
  have hcs : cellsOf S.w (S.mu i) = c.size := zaC hbk
  rw [hn] at e3 hle
  have hcap : cap = es.length := by
    have : (0 + cap) * n = es.length * n := by omega
    have := Nat.eq_of_mul_eq_mul_right hpos this
    omega
  subst hcap
  have hW := zi6 hS hm
  have hmW : (σ.set i (.buf es)).m i = some (.buf es) := by rw [zdn, hm]; rfl
  obtain ⟨base, cap2, l, hv, hl, hll, hsz, hrd⟩ := zex (P := P) hW.m (x := .rs i 0 len) (ys := es.take len) (n := n) (by simp only [zaH, hmW]; rw [if_pos (by omega)]; simp) (.inr hn) hx'
  have htl : (es.take len).length = len := by rw [List.length_take]; omega
  obtain ⟨ti, hi1, hib⟩ := zdc (P := P) hb S.w
  have hti : P.info? e = some ti := by
    unfold zao at hb
    cases hq : P.info? e with
    | none => simp [hq] at hb
    | some i0 => simp [typeInfo, hq] at hi1; rw [hi1]
  have htz : ti.zero = some z := by simpa [zan, hti] using hz
  have hts : ti.size = n := by simpa [tsz, hti] using hs
  have e47 : (2 ^ 47 : Nat) = 140737488355328 := by decide
  have hzs : z.cells.size = n := by rw [← hzn, (zbS S z).length]; simp
  have hqb : q * by_ ≤ 281474976710656 := by
    have : q * by_ ≤ (len + q) * by_ := Nat.mul_le_mul_right _ (by omega)
    omega
  have hlq : len + q ≤ 2 ^ 47 := Nat.le_trans (Nat.le_mul_of_pos_right _ hbp) hbig
  have hrd' := hrd S.w.drew fun _ => rfl
  rw [htl, e1] at hrd'
  have hrun := Lib.run_append_grow_zeros (P := P) S.w t u ty e ti z kq ki hut huu hti htz (some ⟨S.mu i, 0 * i.sz, none⟩) len es.length l (by rw [hts]; exact hrd') q (by omega) (by rw [hts]; exact hpos) hq (by omega) (by rw [hib]; exact hqb)
    (by rw [hib]; exact growslice_fits hq (by omega))
  suffices h : Makes P (Builtin.append_ #[t, u] ty #[ρ x, ρ y]) S σ.m i' (es.take len ++ List.replicate q (z0 z)) (.rs i' 0 (len + q)) by
    obtain ⟨v, S', k1, k2⟩ := zcT h
    exact ⟨v, S', by simpa [execOp, resolve, invoke, builtin] using k1, k2⟩
  refine Makes.push hS.m (w' := S.w.drew.alloc (.cells (l.toArray ++ Builtin.zeroCells z.cells q ++ Builtin.zeroCells z.cells (grownCap S.w (len + q) es.length e - (len + q))) e)) (c := l.toArray ++ Builtin.zeroCells z.cells q ++ Builtin.zeroCells z.cells (grownCap S.w (len + q) es.length e - (len + q))) (t := e)
    (v := .slice (some ⟨S.w.heap.size, 0, none⟩) (len + q) (grownCap S.w (len + q) es.length e)) ?_ (zfa S _) hi' (l := l ++ (Builtin.zeroCells z.cells q).toList) ?_ ?_ ?_ ?_ ?_
  · rw [e1, hy]; exact hrun
  · rw [zbW]
    exact LRel.append hl (zkR S hzn hpos q)
  · intro e' he'
    rw [hisz]
    rcases List.mem_append.1 he' with h | h
    · exact hsz e' h
    · rw [List.eq_of_mem_replicate h]; exact hzn
  · intro j v hj
    have hlt := (List.getElem?_eq_some_iff.1 hj).1
    rw [Array.getElem?_append_left (by simpa using hlt), ← hj]
    simp [List.getElem?_append, Array.getElem?_append]
  · rw [Array.size_append, Array.size_append, size_zeroCells, size_zeroCells, hzs, hisz, List.length_append, List.length_replicate, htl, Nat.add_mul]
    simp only [List.size_toArray, hll, htl]; omega
  · have hge : len + q ≤ grownCap S.w (len + q) es.length e := by unfold grownCap; simp [Question.cut]
    simp only [VRel]
    refine ⟨grownCap S.w (len + q) es.length e, by simp [Ctx.push], hge, ?_, by simp [Ctx.push], .inr rfl⟩
    have hmu : (S.push (S.w.drew.alloc (.cells (l.toArray ++ Builtin.zeroCells z.cells q ++ Builtin.zeroCells z.cells (grownCap S.w (len + q) es.length e - (len + q))) e)) i').mu i' = S.w.heap.size := by simp [Ctx.push]
    rw [hmu]
    refine Eq.trans ?_ (zaC (zbE (w := S.w) rfl)).symm
    rw [Array.size_append, Array.size_append, size_zeroCells, size_zeroCells, hzs, hisz]
    simp only [List.size_toArray, hll, htl]
    rw [← Nat.add_mul, ← Nat.add_mul, Nat.add_sub_cancel' hge, Nat.zero_add]
end
end Go.Proofs.YtanimmdlgmkmkaaGreat.Av
