/- QueryTells: for every pair of networks, and any query, whether it is right, its sources and its verdict are as the document says, or the error; no condition. Part 9 of 14: AvN27, AvN28, AvN29, AvN30, AvN15, AvN18, AvN19, AvN20, AvN21, AvN32, AvN23, AvN24, AvN16, AvN31, AvN33, AvZ1, AvZ2, AvZ4, AvZ5, AvZ6, AvZ3, AvP3, AvL1, AvL2, AvL3, AvL4, AvL7, AvL8, AvL9, AvL5, AvL10, AvL11, AvL12, AvL13. -/
import Derived.Test.YtanimmdlgmkmkaaGreatQtl6
import Derived.Test.YtanimmdlgmkmkaaGreatQtl7
import Derived.Test.YtanimmdlgmkmkaaGreatQtl8

/- Networks: fate.Trace. -/
namespace Go.Proofs.YtanimmdlgmkmkaaGreat.Av
open Go
set_option linter.unusedSimpArgs false
set_option linter.unusedVariables false
set_option maxRecDepth 100000
set_option maxHeartbeats 4000000
set_option pp.maxSteps 600

theorem OwnL.ne_sz {σ0 τ : St} {n : Nat} {v : AV} {es : List AV} (h : OwnL σ0 τ n v es) {i : Id} (hi : i.sz ≠ n) : ∀ k l, v ≠ .rs i k l := by
  rintro k l rfl
  rcases h with ⟨_, e⟩ | ⟨j, e, hj, _, _⟩
  · cases e
  · injection e with e; subst e; exact hi hj
theorem OwnL.set {σ0 τ : St} {n : Nat} {v : AV} {es : List AV} (h : OwnL σ0 τ n v es) {i : Id} {o : Ob} (hi : ∀ k l, v ≠ .rs i k l) : OwnL σ0 (τ.set i o) n v es := by
  rcases h with h | ⟨j, e, hj, hm, hn⟩
  · exact .inl h
  · exact .inr ⟨j, e, hj, by rw [set_other (fun e2 => hi 0 es.length (by rw [e, e2]))]; exact hm, hn⟩
theorem OwnL.del {σ0 τ : St} {n : Nat} {v : AV} {es : List AV} (h : OwnL σ0 τ n v es) {i : Id} (hi : ∀ k l, v ≠ .rs i k l) : OwnL σ0 (τ.del i) n v es := by
  rcases h with h | ⟨j, e, hj, hm, hn⟩
  · exact .inl h
  · exact .inr ⟨j, e, hj, by rw [del_other (fun e2 => hi 0 es.length (by rw [e, e2]))]; exact hm, hn⟩
/-- A track that was made, and a plain value, are handed back. -/
theorem retP_ownAT {P : Program} {A : Env} {σ σ0 : St} {fn : Func} {e : Exit} {n : Nat} {v : AV} {es : List AV} {u b c d : Value} (he : e = .normal ∨ e = .ret) (h : aresult P σ.m A fn.results = some (.tup [.agg [v, .raw b, .raw c, .raw d], .raw u])) (hO : OwnL σ0 σ n v es) (hE : Ext σ0 σ) :
    RetP P fn σ0 (.tup [.agg [.sl n es false, .raw b, .raw c, .raw d], .raw u]) e A σ := by
  refine retP_weak he hE h ?_
  rcases hO with ⟨rfl, rfl⟩ | ⟨j, rfl, hj, hmj, hn⟩
  · exact weaker_tup (weaker_agg weaker_sl)
  · have e1 : giveUps σ0.m σ.m (.tup [.agg [.rs j 0 es.length, .raw b, .raw c, .raw d], .raw u]) = .tup [.agg [.sl n es false, .raw b, .raw c, .raw d], .raw u] := by
      simp only [giveUps, List.map_cons, List.map_nil]
      rw [giveUp_rs_made hn hmj (by simp), hj]; simp [giveUp]
    rw [e1]; exact Weaker.refl _
/-- What a trace under way looks like. -/
structure TrS (σ ρ : St) (i6 i8 : Id) (v : AV) (p : List Int) : Prop where
  ext : Ext σ ρ
  m6 : ρ.m i6 = some (.buf [.agg [.sl 0 [] true, .raw (.int .i64 0), .raw (.int .i64 0), .raw (.int .i64 0)]])
  m8 : ρ.m i8 = some (.buf [.agg [v, .raw (.int .i64 0), .raw (.int .i64 0), .raw (.int .i64 0)]])
  own : OwnL σ ρ 1 v (p.map iAV)
theorem TrS.up {σ ρ π : St} {i6 i8 : Id} {v : AV} {p : List Int} (h : TrS σ ρ i6 i8 v p) (k : Ext ρ π) : TrS σ π i6 i8 v p := ⟨h.ext.trans k, k.m _ _ h.m6, k.m _ _ h.m8, h.own.ext k⟩
theorem TrS.put {σ ρ : St} {i6 i8 i : Id} {v : AV} {p : List Int} {o : Ob} (h : TrS σ ρ i6 i8 v p) (h6 : i6 ≠ i) (h8 : i8 ≠ i) (hv : ∀ k l, v ≠ .rs i k l) (h0 : σ.m i = none) : TrS σ (ρ.set i o) i6 i8 v p :=
  ⟨Ext.setF h.ext h0, by rw [set_other h6]; exact h.m6, by rw [set_other h8]; exact h.m8, h.own.set hv⟩
theorem TrS.del {σ ρ : St} {i6 i8 i : Id} {v : AV} {p : List Int} (h : TrS σ ρ i6 i8 v p) (h6 : i6 ≠ i) (h8 : i8 ≠ i) (hv : ∀ k l, v ≠ .rs i k l) (h0 : σ.m i = none) : TrS σ (ρ.del i) i6 i8 v p :=
  ⟨⟨fun j o hj => by rw [del_other (fun e => by rw [e, h0] at hj; cases hj)]; exact h.ext.m j o hj, h.ext.nx⟩, by rw [del_other h6]; exact h.m6, by rw [del_other h8]; exact h.m8, h.own.del hv⟩
def traceR (n : Nw) (d a : Int) : Tk × Int := if d < 0 ∨ n.t.ports.length ≤ d then (⟨[], 0, ⟨0, 0⟩⟩, 91) else (traceF n d a, 0)
theorem trace_calls (N : Nw) (f : Fl) (d a : Int) (hN : NwOK N) : PCalls Tryz.prog 55 [nwAV N f, .raw (.int .i64 d), .raw (.int .u32 a)] (.tup [tkAV (traceR N d a).1 false, .raw (.int .i64 (traceR N d a).2)]) := by
  have hip : ∀ K t b, (tkAV t b).ids K := fun K t b => by simp [tkAV]
  refine pbody Tryz.func55 rfl (N := 47) rfl rfl (by simp) (by simp [noIds, hip]) fun σ => ?_
  have hl := hN.links
  have f3 : σ.m ⟨3, σ.nx 3, 3⟩ = none := fresh_none _ _ _
  have f6 : σ.m ⟨6, σ.nx 6, 4⟩ = none := fresh_none _ _ _
  have f8 : σ.m ⟨8, σ.nx 8, 4⟩ = none := fresh_none _ _ _
  have f9 : σ.m ⟨9, σ.nx 9, 3⟩ = none := fresh_none _ _ _
  have hndf : ∀ x y z : Int, AV.agg [.raw (.int .i64 x), .raw (.int .i64 y), .raw (.int .i64 z)] = ndAV x ⟨y, z⟩ := fun _ _ _ => rfl
  have hndp : ∀ (x y z : Int) (q : Int) (p : Pt), setPart (ndAV q p) 0 [.raw (.int .i64 x), .raw (.int .i64 y), .raw (.int .i64 z)] = ndAV x ⟨y, z⟩ := fun _ _ _ _ _ => rfl
  by_cases q : d < 0 ∨ N.t.ports.length ≤ d
  · unfold traceR
    rw [if_pos q]
    have hw : Weaker (.tup [.agg [.sl 0 [] true, .raw (.int .i64 0), .raw (.int .i64 0), .raw (.int .i64 0)], .raw (.int .i64 91)]) (.tup [tkAV ⟨[], 0, ⟨0, 0⟩⟩ false, .raw (.int .i64 91)]) := weaker_tup (weaker_agg weaker_sl)
    have fin : ∀ {A : Env} {τ : St}, Ext σ τ → aresult Tryz.prog τ.m A Tryz.f55.results = some (.tup [.agg [.sl 0 [] true, .raw (.int .i64 0), .raw (.int .i64 0), .raw (.int .i64 0)], .raw (.int .i64 91)]) → RetP Tryz.prog Tryz.f55 σ (.tup [tkAV ⟨[], 0, ⟨0, 0⟩⟩ false, .raw (.int .i64 91)]) .ret A τ := fun hE h =>
      retP_weak (.inr rfl) hE h (by simpa [giveUps, giveUp] using hw)
    by_cases q1 : d < 0
    · (try ((first | with_reducible refine dops_go ?_ | with_reducible refine OKv_go ?_ | with_reducible refine OKr_go ?_); simp [-cellOK, nw_cells, q1])); repeat' (first | refine awp_seq ?_ | refine awp_block ?_ | (refine awp_skip ?_; try simp) | (refine awp_exit ?_; try simp) | (refine awp_ret ?_; try simp) | ((first | refine awp_reg ?_ | refine awp_drawT (fun _ => false) mixed (by decide +kernel) ?_ | refine awp_drawT isCallO mixed (by decide +kernel) ?_); simp [-cellOK, nw_cells, q1]) | (refine guarded_split ?_ ?_ <;> (intro hg; simp only [hg]; simp [-cellOK, nw_cells, q1])) | (apply awp_cond_t; focus (simp [-cellOK, nw_cells, q1]; done)) | (apply awp_cond_f; focus (simp [-cellOK, nw_cells, q1]; done)) | (refine awp_cond ?_; simp [-cellOK, nw_cells, q1]; refine ⟨?_, ?_⟩ <;> intro hc) | fail)
      exact fin (by repeat (first | assumption | exact Ext.refl _ | refine ext_new' ?_ | refine Ext.setF ?_ (by first | assumption | (simp [new_nx', St.set, fresh_none]; done) | exact ext_fresh (by assumption)))) (by simp [new_m, set_m, new_nx'])
    · have q2 : (N.t.ports.length : Int) ≤ d := by omega
      (try ((first | with_reducible refine dops_go ?_ | with_reducible refine OKv_go ?_ | with_reducible refine OKr_go ?_); simp [-cellOK, nw_cells, q1, q2, intsAV])); repeat' (first | refine awp_seq ?_ | refine awp_block ?_ | (refine awp_skip ?_; try simp) | (refine awp_exit ?_; try simp) | (refine awp_ret ?_; try simp) | ((first | refine awp_reg ?_ | refine awp_drawT (fun _ => false) mixed (by decide +kernel) ?_ | refine awp_drawT isCallO mixed (by decide +kernel) ?_); simp [-cellOK, nw_cells, q1, q2, intsAV]) | (refine guarded_split ?_ ?_ <;> (intro hg; simp only [hg]; simp [-cellOK, nw_cells, q1, q2, intsAV])) | (apply awp_cond_t; focus (simp [-cellOK, nw_cells, q1, q2, intsAV]; done)) | (apply awp_cond_f; focus (simp [-cellOK, nw_cells, q1, q2, intsAV]; done)) | (refine awp_cond ?_; simp [-cellOK, nw_cells, q1, q2, intsAV]; refine ⟨?_, ?_⟩ <;> intro hc) | fail)
      exact fin (by repeat (first | assumption | exact Ext.refl _ | refine ext_new' ?_ | refine Ext.setF ?_ (by first | assumption | (simp [new_nx', St.set, fresh_none]; done) | exact ext_fresh (by assumption)))) (by simp [new_m, set_m, new_nx'])
  have q1 : ¬ d < 0 := fun h => q (.inl h)
  have q2 : ¬ (N.t.ports.length : Int) ≤ d := fun h => q (.inr h)
  have hres : traceR N d a = (traceF N d a, 0) := by unfold traceR; rw [if_neg q]
  rw [hres]
  have hp : ∀ m, opLen Tryz.prog m 22 (intsAV N.t.ports f.p) = some (.raw (.int .i64 N.t.ports.length)) := fun m => by simp [intsAV]
  (try ((first | with_reducible refine dops_go ?_ | with_reducible refine OKv_go ?_ | with_reducible refine OKr_go ?_); simp [-cellOK, nw_cells, nw_fold, q1, q2, -opLen, hp, nd_cells, hndf, hndp, new_m, set_m, new_nx'])); repeat' (first | refine awp_seq ?_ | refine awp_block ?_ | (refine awp_skip ?_; try simp) | (refine awp_exit ?_; try simp) | (refine awp_ret ?_; try simp) | (refine retP_same (by simp) ?_; simp) | (refine retP_no (by simp) (by simp [noIds]) (by repeat (first | assumption | exact Ext.refl _ | refine ext_new' ?_ | refine Ext.setF ?_ (by first | assumption | (simp [new_nx', St.set, fresh_none]; done) | exact ext_fresh (by assumption)))) ?_; simp [-cellOK, nw_cells, nw_fold, q1, q2, -opLen, hp, nd_cells, hndf, hndp, new_m, set_m, new_nx', new_m, set_m, new_nx']) | ((first | refine awp_reg ?_ | refine awp_drawT (fun _ => false) mixed (by decide +kernel) ?_ | refine awp_drawT isCallO mixed (by decide +kernel) ?_); simp [-cellOK, nw_cells, nw_fold, q1, q2, -opLen, hp, nd_cells, hndf, hndp, new_m, set_m, new_nx']) | (refine guarded_split ?_ ?_ <;> (intro hg; simp only [hg]; simp [-cellOK, nw_cells, nw_fold, q1, q2, -opLen, hp, nd_cells, hndf, hndp, new_m, set_m, new_nx'])) | (apply awp_cond_t; focus (simp [-cellOK, nw_cells, nw_fold, q1, q2, -opLen, hp, nd_cells, hndf, hndp, new_m, set_m, new_nx']; done)) | (apply awp_cond_f; focus (simp [-cellOK, nw_cells, nw_fold, q1, q2, -opLen, hp, nd_cells, hndf, hndp, new_m, set_m, new_nx']; done)) | (refine awp_cond ?_; simp [-cellOK, nw_cells, nw_fold, q1, q2, -opLen, hp, nd_cells, hndf, hndp, new_m, set_m, new_nx']; refine ⟨?_, ?_⟩ <;> intro hc) | fail)
  generalize hσ1 : St.set _ _ _ = σ1
  have m6 : σ1.m ⟨6, σ.nx 6, 4⟩ = some (.buf [.agg [.sl 0 [] true, .raw (.int .i64 0), .raw (.int .i64 0), .raw (.int .i64 0)]]) := by rw [← hσ1]; simp [new_m, set_m, new_nx']
  have m8 : σ1.m ⟨8, σ.nx 8, 4⟩ = some (.buf [.agg [.sl 0 [] true, .raw (.int .i64 0), .raw (.int .i64 0), .raw (.int .i64 0)]]) := by rw [← hσ1]; simp [new_m, set_m, new_nx']
  have m9 : σ1.m ⟨9, σ.nx 9, 3⟩ = some (.buf [ndAV 4 ⟨0, 0⟩]) := by rw [← hσ1]; simp [new_m, set_m, new_nx']
  have hE1 : Ext σ σ1 := by rw [← hσ1]; exact (by repeat (first | assumption | exact Ext.refl _ | refine ext_new' ?_ | refine Ext.setF ?_ (by first | assumption | (simp [new_nx', St.set, fresh_none]; done) | exact ext_fresh (by assumption))))
  clear hσ1
  refine (devices_calls N f d a ⟨9, σ.nx 9, 3⟩ (by rw [m9]; simp)).mono ?_
  rintro _ τ ⟨iat, rfl, his, hi0, him, hEτ⟩
  have hEs : Ext σ τ := hE1.trans hEτ
  have hiat0 : σ.m iat = none := by
    cases h : σ.m iat with
    | none => rfl
    | some o => rw [hE1.m _ _ h] at hi0; cases hi0
  (try ((first | with_reducible refine dops_go ?_ | with_reducible refine OKv_go ?_ | with_reducible refine OKr_go ?_); simp [-cellOK])); repeat' (first | refine awp_seq ?_ | refine awp_block ?_ | (refine awp_skip ?_; try simp) | (refine awp_exit ?_; try simp) | (refine awp_ret ?_; try simp) | (refine retP_same (by simp) ?_; simp) | (refine retP_no (by simp) (by simp [noIds]) (by repeat (first | assumption | exact Ext.refl _ | refine ext_new' ?_ | refine Ext.setF ?_ (by first | assumption | (simp [new_nx', St.set, fresh_none]; done) | exact ext_fresh (by assumption)))) ?_; simp [-cellOK, new_m, set_m, new_nx']) | ((first | refine awp_reg ?_ | refine awp_drawT (fun _ => false) mixed (by decide +kernel) ?_ | refine awp_drawT isCallO mixed (by decide +kernel) ?_); simp [-cellOK]) | (refine guarded_split ?_ ?_ <;> (intro hg; simp only [hg]; simp [-cellOK])) | (apply awp_cond_t; focus (simp [-cellOK]; done)) | (apply awp_cond_f; focus (simp [-cellOK]; done)) | (refine awp_cond ?_; simp [-cellOK]; refine ⟨?_, ?_⟩ <;> intro hc) | fail)
  generalize hA : put 47 _ 27 _ = A
  have a6 : A 6 = .rp ⟨6, σ.nx 6, 4⟩ 0 0 := by rw [← hA]; simp
  have a8 : A 8 = .rp ⟨8, σ.nx 8, 4⟩ 0 0 := by rw [← hA]; simp
  have a9 : A 9 = .rp ⟨9, σ.nx 9, 3⟩ 0 0 := by rw [← hA]; simp
  have a27 : A 27 = .fn (.func 157) [] [.rp iat 0 0, .pp (nwAV N f).cells 0, .pp [.raw (.int .u32 a)] 0, .pp [.rp ⟨9, σ.nx 9, 3⟩ 0 0] 0] := by rw [← hA]; simp [nw_cells]
  clear hA
  obtain ⟨i6, hi6⟩ : ∃ i, (⟨6, σ.nx 6, 4⟩ : Id) = i := ⟨_, rfl⟩
  obtain ⟨i8, hi8⟩ : ∃ i, (⟨8, σ.nx 8, 4⟩ : Id) = i := ⟨_, rfl⟩
  obtain ⟨ie, hie⟩ : ∃ i, (⟨9, σ.nx 9, 3⟩ : Id) = i := ⟨_, rfl⟩
  have s6 : i6.sz = 4 := by rw [← hi6]
  have s8 : i8.sz = 4 := by rw [← hi8]
  have se : ie.sz = 3 := by rw [← hie]
  have d68 : i6 ≠ i8 := by rw [← hi6, ← hi8]; simp
  rw [hi6] at m6 f6 a6
  rw [hi8] at m8 f8 a8
  rw [hie] at m9 f9 a9 a27
  have nsz : ∀ {i j : Id}, i.sz ≠ j.sz → i ≠ j := fun h e => h (by rw [e])
  refine awp_block_cutH (fun B ρ => B 6 = .rp i6 0 0 ∧ B 8 = .rp i8 0 0 ∧ B 9 = .rp ie 0 0 ∧ ∃ v, TrS σ ρ i6 i8 v (traceF N d a).path ∧ ρ.m ie = some (.buf [ndAV (traceF N d a).out (traceF N d a).last])) ?_ ?_
  · intro R1 hR1
    refine awp_rangeFn a27 fun b lo L hlo hL => ?_
    have hLf : τ.m L = none := by rw [hL]; exact fresh_none _ _ _
    have hL0 : σ.m L = none := by rw [hL]; exact ext_fresh hEs
    have sL : L.sz = 0 := by rw [hL]
    have hσL : (τ.new 0 0 (lo .ready none)).m L = some (lo .ready none) := by rw [hL]; simp
    obtain ⟨Q, hQ⟩ : ∃ Q : Int → List Int → St → Prop, ∀ d' p ρ, Q d' p ρ ↔ ∃ v, Way N a d d' p ∧ TrS σ ρ i6 i8 v p ∧ (∀ k l, v ≠ .rs iat k l) ∧ ρ.m L = some (lo .ready none) ∧ ρ.m ie = some (.buf [ndAV 4 ⟨0, 0⟩]) ∧ ρ.m iat = some (.buf [.raw (.int .i64 d')]) := ⟨_, fun _ _ _ => Iff.rfl⟩
    obtain ⟨F, hF⟩ : ∃ F : St → Prop, ∀ ρ, F ρ ↔ ∃ st pd v, ρ.m L = some (lo st pd) ∧ st ≠ .busy ∧ (pd = none ∨ pd = some (.exit 0)) ∧ TrS σ ρ i6 i8 v (traceF N d a).path ∧ ρ.m ie = some (.buf [ndAV (traceF N d a).out (traceF N d a).last]) := ⟨_, fun _ => Iff.rfl⟩
    refine (devs_yield N f a iat ie hN (1 + 2 * N.t.links.length) Q F b ?_ ?_ ?_ ?_ ?_ (d0 := d) ?_).mono ?_
    · intro d' p ρ h; obtain ⟨v, hw, _⟩ := (hQ _ _ _).1 h; exact hw.len
    · intro d' p ρ π h k
      obtain ⟨v, hw, hS, hv, h1, h2, h3⟩ := (hQ _ _ _).1 h
      exact (hQ _ _ _).2 ⟨v, hw, hS.up k, hv, k.m _ _ h1, k.m _ _ h2, k.m _ _ h3⟩
    · intro ρ π h k
      obtain ⟨st, pd, v, h1, h2, h3, hS, h4⟩ := (hF _).1 h
      exact (hF _).2 ⟨st, pd, v, k.m _ _ h1, h2, h3, hS.up k, k.m _ _ h4⟩
    · intro d' p ρ h; obtain ⟨v, hw, hS, hv, h1, h2, h3⟩ := (hQ _ _ _).1 h; exact h3
    · intro d' p ρ h
      obtain ⟨v, hw, hS, hv, h1, h2, h3⟩ := (hQ _ _ _).1 h
      have hpl := hw.len
      have nL6 : i6 ≠ L := nsz (by rw [s6, sL]; decide)
      have nL8 : i8 ≠ L := nsz (by rw [s8, sL]; decide)
      have nLe : ie ≠ L := nsz (by rw [se, sL]; decide)
      have nLa : iat ≠ L := nsz (by rw [his, sL]; decide)
      have ne8 : ie ≠ i8 := nsz (by rw [se, s8]; decide)
      have na8 : iat ≠ i8 := nsz (by rw [his, s8]; decide)
      have nae : iat ≠ ie := nsz (by rw [his, se]; decide)
      refine YK.of h1 hlo (by simp) ?_
      show AWP _ _ _ _ _ (put 47 A 28 (.raw (.int .i64 d'))) ρ
      (try ((first | with_reducible refine dops_go ?_ | with_reducible refine OKv_go ?_ | with_reducible refine OKr_go ?_); simp [-cellOK])); repeat' (first | refine awp_seq ?_ | refine awp_block ?_ | (refine awp_skip ?_; try simp) | (refine awp_exit ?_; try simp) | (refine awp_ret ?_; try simp) | (refine retP_same (by simp) ?_; simp) | (refine retP_no (by simp) (by simp [noIds]) (by repeat (first | assumption | exact Ext.refl _ | refine ext_new' ?_ | refine Ext.setF ?_ (by first | assumption | (simp [new_nx', St.set, fresh_none]; done) | exact ext_fresh (by assumption)))) ?_; simp [-cellOK, new_m, set_m, new_nx']) | ((first | refine awp_reg ?_ | refine awp_drawT (fun _ => false) mixed (by decide +kernel) ?_ | refine awp_drawT isCallO mixed (by decide +kernel) ?_); simp [-cellOK]) | (refine guarded_split ?_ ?_ <;> (intro hg; simp only [hg]; simp [-cellOK])) | (apply awp_cond_t; focus (simp [-cellOK]; done)) | (apply awp_cond_f; focus (simp [-cellOK]; done)) | (refine awp_cond ?_; simp [-cellOK]; refine ⟨?_, ?_⟩ <;> intro hc) | fail)
      refine ⟨h1, ?_⟩
      have g1 : (ρ.set L (lo .busy none)).m L = some (lo .busy none) := by simp [h1]
      have g2 : (ρ.set L (lo .busy none)).m ie = some (.buf [ndAV 4 ⟨0, 0⟩]) := by rw [set_other nLe]; exact h2
      have g3 : (ρ.set L (lo .busy none)).m iat = some (.buf [.raw (.int .i64 d')]) := by rw [set_other nLa]; exact h3
      have gS : TrS σ (ρ.set L (lo .busy none)) i6 i8 v p := hS.put nL6 nL8 (hS.own.ne_sz (by rw [sL]; decide)) hL0
      generalize ρ.set L (lo .busy none) = ρ2 at g1 g2 g3 gS ⊢
      clear h1 h2 h3 hS
      obtain ⟨hE2, q6, q8, hO⟩ := gS
      have hc : PCalls Tryz.prog 102 [.sl 1 (p.map iAV) false, .raw (.int .i64 d')] (.raw (.bool (p.any fun x => decide (d' = x)))) := contains_calls p false d' (by omega)
      obtain ⟨b0, hb0⟩ : ∃ b, (p.any fun x => decide (d' = x)) = b := ⟨_, rfl⟩
      have hb : (d' ∈ p) ↔ b0 = true := by rw [← hb0, List.any_eq_true]; constructor
                                           · exact fun h => ⟨d', h, by simp⟩
                                           · rintro ⟨x, hx, e⟩; simp only [decide_eq_true_eq] at e; exact e ▸ hx
      rw [hb0] at hc
      (try ((first | with_reducible refine dops_go ?_ | with_reducible refine OKv_go ?_ | with_reducible refine OKr_go ?_); simp [-cellOK, a8, q8])); repeat' (first | refine awp_seq ?_ | refine awp_block ?_ | (refine awp_skip ?_; try simp) | (refine awp_exit ?_; try simp) | (refine awp_ret ?_; try simp) | (refine retP_same (by simp) ?_; simp) | (refine retP_no (by simp) (by simp [noIds]) (by repeat (first | assumption | exact Ext.refl _ | refine ext_new' ?_ | refine Ext.setF ?_ (by first | assumption | (simp [new_nx', St.set, fresh_none]; done) | exact ext_fresh (by assumption)))) ?_; simp [-cellOK, a8, q8, new_m, set_m, new_nx']) | ((first | refine awp_reg ?_ | refine awp_drawT (fun _ => false) mixed (by decide +kernel) ?_ | refine awp_drawT isCallO mixed (by decide +kernel) ?_); simp [-cellOK, a8, q8]) | (refine guarded_split ?_ ?_ <;> (intro hg; simp only [hg]; simp [-cellOK, a8, q8])) | (apply awp_cond_t; focus (simp [-cellOK, a8, q8]; done)) | (apply awp_cond_f; focus (simp [-cellOK, a8, q8]; done)) | (refine awp_cond ?_; simp [-cellOK, a8, q8]; refine ⟨?_, ?_⟩ <;> intro hc) | fail)
      refine hc.useP rfl hO.toP ?_
      (try ((first | with_reducible refine dops_go ?_ | with_reducible refine OKv_go ?_ | with_reducible refine OKr_go ?_); simp [-cellOK, a8, q8, -opAppend])); repeat' (first | refine awp_seq ?_ | refine awp_block ?_ | (refine awp_skip ?_; try simp) | (refine awp_exit ?_; try simp) | (refine awp_ret ?_; try simp) | (refine retP_same (by simp) ?_; simp) | (refine retP_no (by simp) (by simp [noIds]) (by repeat (first | assumption | exact Ext.refl _ | refine ext_new' ?_ | refine Ext.setF ?_ (by first | assumption | (simp [new_nx', St.set, fresh_none]; done) | exact ext_fresh (by assumption)))) ?_; simp [-cellOK, a8, q8, -opAppend, new_m, set_m, new_nx']) | ((first | refine awp_reg ?_ | refine awp_drawT (fun _ => false) mixed (by decide +kernel) ?_ | refine awp_drawT isCallO mixed (by decide +kernel) ?_); simp [-cellOK, a8, q8, -opAppend]) | (refine guarded_split ?_ ?_ <;> (intro hg; simp only [hg]; simp [-cellOK, a8, q8, -opAppend])) | (apply awp_cond_t; focus (simp [-cellOK, a8, q8, -opAppend]; done)) | (apply awp_cond_f; focus (simp [-cellOK, a8, q8, -opAppend]; done)) | (refine awp_cond ?_; simp [-cellOK, a8, q8, -opAppend]; refine ⟨?_, ?_⟩ <;> intro hc) | fail)
      refine okr_append slt22 (σ0 := σ) (hO.ext (by repeat (first | assumption | exact Ext.refl _ | refine ext_new' ?_ | refine Ext.setF ?_ (by first | assumption | (simp [new_nx', St.set, fresh_none]; done) | exact ext_fresh (by assumption))))) (by repeat (first | assumption | exact Ext.refl _ | refine ext_new' ?_ | refine Ext.setF ?_ (by first | assumption | (simp [new_nx', St.set, fresh_none]; done) | exact ext_fresh (by assumption)))) (ys := [iAV d']) (by simp [new_m, new_nx', iAV]) (.inr rfl) (by simp [iAV]) (by simp; omega) ?_
      intro v' τ' hO' hE' hk hnx
      obtain ⟨k6, _⟩ := hk i6 _ (new_up _ _ q6) (hO.ne_sz (by rw [s6]; decide))
      obtain ⟨k8, _⟩ := hk i8 _ (new_up _ _ q8) (hO.ne_sz (by rw [s8]; decide))
      obtain ⟨ke, _⟩ := hk ie _ (new_up _ _ g2) (hO.ne_sz (by rw [se]; decide))
      obtain ⟨kL, _⟩ := hk L _ (new_up _ _ g1) (hO.ne_sz (by rw [sL]; decide))
      obtain ⟨ka, hva⟩ := hk iat _ (new_up _ _ g3) hv
      clear hk
      have hO2 : OwnL σ τ' 1 v' ((p ++ [d']).map iAV) := by rw [List.map_append]; exact hO'
      have hS3 : ∀ o, TrS σ ((τ'.set i8 (.buf [.agg [v', .raw (.int .i64 0), .raw (.int .i64 0), .raw (.int .i64 0)]])).set L o) i6 i8 v' (p ++ [d']) := fun o =>
        (show TrS σ (τ'.set i8 (.buf [.agg [v', .raw (.int .i64 0), .raw (.int .i64 0), .raw (.int .i64 0)]])) i6 i8 v' (p ++ [d']) from
          ⟨Ext.setF hE' f8, by rw [set_other d68]; exact k6, by simp [k8], hO2.set (hO2.ne_sz (by rw [s8]; decide))⟩).put nL6 nL8 (hO2.ne_sz (by rw [sL]; decide)) hL0
      have e1 : ∀ o, ((τ'.set i8 (.buf [.agg [v', .raw (.int .i64 0), .raw (.int .i64 0), .raw (.int .i64 0)]])).set L o).m L = some o := fun o => by simp [set_other nL8.symm, kL]
      have e2 : ∀ o, ((τ'.set i8 (.buf [.agg [v', .raw (.int .i64 0), .raw (.int .i64 0), .raw (.int .i64 0)]])).set L o).m ie = some (.buf [ndAV 4 ⟨0, 0⟩]) := fun o => by rw [set_other nLe, set_other ne8]; exact ke
      have e3 : ∀ o, ((τ'.set i8 (.buf [.agg [v', .raw (.int .i64 0), .raw (.int .i64 0), .raw (.int .i64 0)]])).set L o).m iat = some (.buf [.raw (.int .i64 d')]) := fun o => by rw [set_other nLa, set_other na8]; exact ka
      have e0 : (τ'.set i8 (.buf [.agg [v', .raw (.int .i64 0), .raw (.int .i64 0), .raw (.int .i64 0)]])).m L = some (lo .busy none) := by rw [set_other nL8.symm]; exact kL
      cases b0 with
      | true =>
        have hd := hb.2 rfl
        have hR := hw.again hd
        (try ((first | with_reducible refine dops_go ?_ | with_reducible refine OKv_go ?_ | with_reducible refine OKr_go ?_); simp [-cellOK, a8, k8, hO'.cells, hO'.cellOK])); repeat' (first | refine awp_seq ?_ | refine awp_block ?_ | (refine awp_skip ?_; try simp) | (refine awp_exit ?_; try simp) | (refine awp_ret ?_; try simp) | (refine retP_same (by simp) ?_; simp) | (refine retP_no (by simp) (by simp [noIds]) (by repeat (first | assumption | exact Ext.refl _ | refine ext_new' ?_ | refine Ext.setF ?_ (by first | assumption | (simp [new_nx', St.set, fresh_none]; done) | exact ext_fresh (by assumption)))) ?_; simp [-cellOK, a8, k8, hO'.cells, hO'.cellOK, new_m, set_m, new_nx']) | ((first | refine awp_reg ?_ | refine awp_drawT (fun _ => false) mixed (by decide +kernel) ?_ | refine awp_drawT isCallO mixed (by decide +kernel) ?_); simp [-cellOK, a8, k8, hO'.cells, hO'.cellOK]) | (refine guarded_split ?_ ?_ <;> (intro hg; simp only [hg]; simp [-cellOK, a8, k8, hO'.cells, hO'.cellOK])) | (apply awp_cond_t; focus (simp [-cellOK, a8, k8, hO'.cells, hO'.cellOK]; done)) | (apply awp_cond_f; focus (simp [-cellOK, a8, k8, hO'.cells, hO'.cellOK]; done)) | (refine awp_cond ?_; simp [-cellOK, a8, k8, hO'.cells, hO'.cellOK]; refine ⟨?_, ?_⟩ <;> intro hc) | fail)
        refine ⟨e0, .inr ⟨rfl, (hF _).2 ⟨.done, some (.exit 0), v', e1 _, by simp, .inr rfl, ?_, ?_⟩⟩⟩
        · rw [hR]; exact hS3 _
        · rw [hR]; exact e2 _
      | false =>
        have hd : d' ∉ p := fun h => by have := hb.1 h; cases this
        (try ((first | with_reducible refine dops_go ?_ | with_reducible refine OKv_go ?_ | with_reducible refine OKr_go ?_); simp [-cellOK, a8, k8, hO'.cells, hO'.cellOK])); repeat' (first | refine awp_seq ?_ | refine awp_block ?_ | (refine awp_skip ?_; try simp) | (refine awp_exit ?_; try simp) | (refine awp_ret ?_; try simp) | (refine retP_same (by simp) ?_; simp) | (refine retP_no (by simp) (by simp [noIds]) (by repeat (first | assumption | exact Ext.refl _ | refine ext_new' ?_ | refine Ext.setF ?_ (by first | assumption | (simp [new_nx', St.set, fresh_none]; done) | exact ext_fresh (by assumption)))) ?_; simp [-cellOK, a8, k8, hO'.cells, hO'.cellOK, new_m, set_m, new_nx']) | ((first | refine awp_reg ?_ | refine awp_drawT (fun _ => false) mixed (by decide +kernel) ?_ | refine awp_drawT isCallO mixed (by decide +kernel) ?_); simp [-cellOK, a8, k8, hO'.cells, hO'.cellOK]) | (refine guarded_split ?_ ?_ <;> (intro hg; simp only [hg]; simp [-cellOK, a8, k8, hO'.cells, hO'.cellOK])) | (apply awp_cond_t; focus (simp [-cellOK, a8, k8, hO'.cells, hO'.cellOK]; done)) | (apply awp_cond_f; focus (simp [-cellOK, a8, k8, hO'.cells, hO'.cellOK]; done)) | (refine awp_cond ?_; simp [-cellOK, a8, k8, hO'.cells, hO'.cellOK]; refine ⟨?_, ?_⟩ <;> intro hc) | fail)
        refine ⟨e0, .inl ⟨rfl, e3 _, e2 _, fun hs π hπ => ?_, fun hs π hπ => ?_⟩⟩
        · have hR := hw.fin hd hs
          have hS4 := (hS3 (lo .ready none)).up hπ
          refine (hF _).2 ⟨.ready, none, v', ?_, by simp, .inl rfl, ?_, ?_⟩
          · rw [set_other nLe.symm]; exact hπ.m _ _ (e1 _)
          · rw [hR]
            exact hS4.put (nsz (by rw [s6, se]; decide)) ne8.symm (hO2.ne_sz (by rw [se]; decide)) f9
          · rw [hR]; simp [hπ.m _ _ (e2 (lo .ready none))]
        · have hw' := hw.on hd hs
          have hS4 := (hS3 (lo .ready none)).up hπ
          refine (hQ _ _ _).2 ⟨v', hw', hS4.put (nsz (by rw [s6, his]; decide)) na8.symm hva hiat0, hva, ?_, ?_, ?_⟩
          · rw [set_other nLa.symm]; exact hπ.m _ _ (e1 _)
          · rw [set_other nae.symm]; exact hπ.m _ _ (e2 _)
          · simp [hπ.m _ _ (e3 (lo .ready none))]
    · exact (hQ _ _ _).2 ⟨.sl 0 [] true, Way.start N a d, ⟨hEs.trans (Ext.new _ _ _ _), new_up _ _ (hEτ.m _ _ m6), new_up _ _ (hEτ.m _ _ m8), .inl ⟨rfl, rfl⟩⟩, by simp, hσL, new_up _ _ (hEτ.m _ _ m9), new_up _ _ him⟩
    · intro _ ρ h
      obtain ⟨st, pd, v, h1, h2, h3, hS, h4⟩ := (hF _).1 h
      have hfin : R1 A (ρ.del L) := hR1 _ _ ⟨a6, a8, a9, v, hS.del (nsz (by rw [s6, sL]; decide)) (nsz (by rw [s8, sL]; decide)) (hS.own.ne_sz (by rw [sL]; decide)) hL0, by rw [del_other (nsz (by rw [se, sL]; decide))]; exact h4⟩
      refine ⟨st, pd, h1, h2, fun _ => hfin, fun c hc => ?_⟩
      rcases h3 with h3 | h3
      · rw [h3] at hc; cases hc
      · rw [h3] at hc
        simp only [Option.some.injEq] at hc
        subst hc
        refine awp_exit ?_
        simpa using hfin
  · rintro B ρ ⟨a6, a8, a9, v, ⟨hE, h6, h8, hO⟩, h9⟩
    generalize traceF N d a = R at h9 hO ⊢
    refine awp_seq ?_
    refine awp_freeze ie ?_
    have n6e : i6 ≠ ie := nsz (by rw [s6, se]; decide)
    have n8e : i8 ≠ ie := nsz (by rw [s8, se]; decide)
    obtain ⟨C, hC⟩ : ∃ C, (fun t => giveUp (ρ.del ie).m ρ.m (B t)) = C := ⟨_, rfl⟩
    rw [hC]
    have c6 : C 6 = .rp i6 0 0 := by rw [← hC]; show giveUp _ _ (B 6) = _; rw [a6]; exact giveUp_rp_ne n6e
    have c8 : C 8 = .rp i8 0 0 := by rw [← hC]; show giveUp _ _ (B 8) = _; rw [a8]; exact giveUp_rp_ne n8e
    have c9 : C 9 = .pp (ndAV R.out R.last).cells 0 := by rw [← hC]; show giveUp _ _ (B 9) = _; rw [a9]; exact giveUp_rp_made (by simp) h9 rfl
    have hE' : Ext σ (ρ.del ie) := ⟨fun j o hj => by rw [del_other (fun e => by rw [e, f9] at hj; cases hj)]; exact hE.m j o hj, hE.nx⟩
    have h6' := (del_other (σ := ρ) n6e).trans h6
    have h8' := (del_other (σ := ρ) n8e).trans h8
    have hO' : OwnL σ (ρ.del ie) 1 v (R.path.map iAV) := hO.del (hO.ne_sz (by rw [se]; decide))
    generalize ρ.del ie = ρ' at hE' h6' h8' hO' ⊢
    clear hC a6 a8 a9 h6 h8 h9 hO hE
    have hv1 := hO'.cells
    have hv2 := hO'.cellOK
    have hvp : ∀ x y z : Value, setPart (AV.agg [v, .raw x, .raw y, .raw z]) 2 (ptAV R.last).cells = .agg [v, .raw x, .raw (.int .i64 R.last.dev), .raw (.int .i64 R.last.port)] := fun _ _ _ => rfl
    refine awp_drawP [0, 1, 2, 3, 4, 6] 5 7 (lsO [41, 43]) mixed (by decide +kernel) ?_
    rw [List.map_cons, List.map_cons, List.map_cons, List.map_cons, List.map_cons, List.map_cons, List.map_nil]
    dsimp only [mkD, List.getElem?_cons_zero, List.getElem?_cons_succ, guardOf, Option.map_none, Option.map_some]
    (try ((first | with_reducible refine dops_go ?_ | with_reducible refine OKv_go ?_ | with_reducible refine OKr_go ?_); simp [-cellOK, c6, c8, c9, nd_cells, pt_fold, pt_cells, h8'])); repeat' (first | refine awp_seq ?_ | refine awp_block ?_ | (refine awp_skip ?_; try simp) | (refine awp_exit ?_; try simp) | (refine awp_ret ?_; try simp) | (refine retP_same (by simp) ?_; simp) | (refine retP_no (by simp) (by simp [noIds]) (by repeat (first | assumption | exact Ext.refl _ | refine ext_new' ?_ | refine Ext.setF ?_ (by first | assumption | (simp [new_nx', St.set, fresh_none]; done) | exact ext_fresh (by assumption)))) ?_; simp [-cellOK, c6, c8, c9, nd_cells, pt_fold, pt_cells, h8', new_m, set_m, new_nx']) | ((first | refine awp_reg ?_ | refine awp_drawT (fun _ => false) mixed (by decide +kernel) ?_ | refine awp_drawT isCallO mixed (by decide +kernel) ?_); simp [-cellOK, c6, c8, c9, nd_cells, pt_fold, pt_cells, h8']) | (refine guarded_split ?_ ?_ <;> (intro hg; simp only [hg]; simp [-cellOK, c6, c8, c9, nd_cells, pt_fold, pt_cells, h8'])) | (apply awp_cond_t; focus (simp [-cellOK, c6, c8, c9, nd_cells, pt_fold, pt_cells, h8']; done)) | (apply awp_cond_f; focus (simp [-cellOK, c6, c8, c9, nd_cells, pt_fold, pt_cells, h8']; done)) | (refine awp_cond ?_; simp [-cellOK, c6, c8, c9, nd_cells, pt_fold, pt_cells, h8']; refine ⟨?_, ?_⟩ <;> intro hc) | fail)
    have hvs : ∀ {i : Id}, i.sz = 4 → ∀ k l, v ≠ .rs i k l := fun h => hO'.ne_sz (by rw [h]; decide)
    have hd86 : i8 ≠ i6 := d68.symm
    have hv3 : ∀ w x y z : Value, [v, AV.raw x, AV.raw y, AV.raw z].length = 4 := fun _ _ _ _ => rfl
    have hcok : ∀ x y z : Int, cellsOK [v, AV.raw (.int .i64 x), AV.raw (.int .i64 y), AV.raw (.int .i64 z)] = true := fun x y z => by simp [-cellOK, hv2]
    refine ⟨?_, ?_⟩
    · (try ((first | with_reducible refine dops_go ?_ | with_reducible refine OKv_go ?_ | with_reducible refine OKr_go ?_); simp [-cellOK, c6, c8, h6', h8', hv1, hv2, set_m, d68, hd86])); repeat' (first | refine awp_seq ?_ | refine awp_block ?_ | (refine awp_skip ?_; try simp) | (refine awp_exit ?_; try simp) | (refine awp_ret ?_; try simp) | ((first | refine awp_reg ?_ | refine awp_drawT (fun _ => false) mixed (by decide +kernel) ?_ | refine awp_drawT isCallO mixed (by decide +kernel) ?_); simp [-cellOK, c6, c8, h6', h8', hv1, hv2, set_m, d68, hd86]) | (refine guarded_split ?_ ?_ <;> (intro hg; simp only [hg]; simp [-cellOK, c6, c8, h6', h8', hv1, hv2, set_m, d68, hd86])) | (apply awp_cond_t; focus (simp [-cellOK, c6, c8, h6', h8', hv1, hv2, set_m, d68, hd86]; done)) | (apply awp_cond_f; focus (simp [-cellOK, c6, c8, h6', h8', hv1, hv2, set_m, d68, hd86]; done)) | (refine awp_cond ?_; simp [-cellOK, c6, c8, h6', h8', hv1, hv2, set_m, d68, hd86]; refine ⟨?_, ?_⟩ <;> intro hc) | fail)
      refine retP_ownAT (v := v) (.inr rfl) (by simp [set_m, h6', h8', d68, hd86, c6, c8]) (((hO'.set (hvs s8)).set (hvs s8)).set (hvs s6)) ?_
      exact Ext.setF (Ext.setF (Ext.setF hE' f8) f8) f6
    · (try ((first | with_reducible refine dops_go ?_ | with_reducible refine OKv_go ?_ | with_reducible refine OKr_go ?_); simp [-cellOK, c6, c8, h6', h8', hv1, hv2, set_m, d68, hd86])); repeat' (first | refine awp_seq ?_ | refine awp_block ?_ | (refine awp_skip ?_; try simp) | (refine awp_exit ?_; try simp) | (refine awp_ret ?_; try simp) | ((first | refine awp_reg ?_ | refine awp_drawT (fun _ => false) mixed (by decide +kernel) ?_ | refine awp_drawT isCallO mixed (by decide +kernel) ?_); simp [-cellOK, c6, c8, h6', h8', hv1, hv2, set_m, d68, hd86]) | (refine guarded_split ?_ ?_ <;> (intro hg; simp only [hg]; simp [-cellOK, c6, c8, h6', h8', hv1, hv2, set_m, d68, hd86])) | (apply awp_cond_t; focus (simp [-cellOK, c6, c8, h6', h8', hv1, hv2, set_m, d68, hd86]; done)) | (apply awp_cond_f; focus (simp [-cellOK, c6, c8, h6', h8', hv1, hv2, set_m, d68, hd86]; done)) | (refine awp_cond ?_; simp [-cellOK, c6, c8, h6', h8', hv1, hv2, set_m, d68, hd86]; refine ⟨?_, ?_⟩ <;> intro hc) | fail)
      refine retP_ownAT (v := v) (.inr rfl) (by simp [set_m, h6', h8', d68, hd86, c6, c8]) (((hO'.set (hvs s8)).set (hvs s8)).set (hvs s6)) ?_
      exact Ext.setF (Ext.setF (Ext.setF hE' f8) f8) f6
end Go.Proofs.YtanimmdlgmkmkaaGreat.Av


/- Networks: what is genuine; queries: right ones, sources, what breaks them. -/
namespace Go.Proofs.YtanimmdlgmkmkaaGreat.Av
open Go
set_option linter.unusedSimpArgs false
set_option linter.unusedVariables false
set_option maxRecDepth 100000
set_option maxHeartbeats 4000000
set_option pp.maxSteps 600

@[simp] theorem tk_ids (K : Id → Prop) (t : Tk) (b : Bool) : (tkAV t b).ids K := by simp [tkAV]
theorem tk_cells (t : Tk) (f : Bool) : (tkAV t f).cells = [intsAV t.path f, .raw (.int .i64 t.out), .raw (.int .i64 t.last.dev), .raw (.int .i64 t.last.port)] := rfl
theorem tk_fold (t : Tk) (f : Bool) : AV.agg [intsAV t.path f, .raw (.int .i64 t.out), .raw (.int .i64 t.last.dev), .raw (.int .i64 t.last.port)] = tkAV t f := rfl
theorem tk_put (t u : Tk) (f g : Bool) : setPart (tkAV t f) 0 (tkAV u g).cells = tkAV u g := rfl
theorem tk_putO (u : Tk) (g : Bool) : setPart (AV.agg [.sl 0 [] true, .raw (.int .i64 0), .raw (.int .i64 0), .raw (.int .i64 0)]) 0 (tkAV u g).cells = tkAV u g := rfl
theorem tk_putL (u : Tk) (g : Bool) : setPart (AV.agg [.sl 0 [] true, .raw (.int .i64 0), .raw (.int .i64 0), .raw (.int .i64 0)]) 0 [intsAV u.path g, .raw (.int .i64 u.out), .raw (.int .i64 u.last.dev), .raw (.int .i64 u.last.port)] = tkAV u g := rfl
def genuineB (N : Nw) (a : Int) (t : Tk) : Bool := match t.path with | [] => false | d :: _ => decide ((traceR N d a).2 = 0) && decide (t = (traceR N d a).1)
theorem walkT_len (n : Nw) (a : Int) : ∀ (f : Nat) (d : Int) (p : List Int), (walkT n a f d p).path.length ≤ p.length + f
  | 0, d, p => by simp [walkT]
  | f + 1, d, p => by
    have := walkT_len n a f (nextDev n (stepF n d a).2) (p ++ [d])
    simp only [walkT]
    split
    · simp
    · split
      · simp only [List.length_append, List.length_singleton] at this; omega
      · simp
theorem traceR_len (n : Nw) (d a : Int) : (traceR n d a).1.path.length ≤ 2 + 2 * n.t.links.length := by
  unfold traceR
  split
  · simp
  · have := walkT_len n a (2 + 2 * n.t.links.length) d []
    simpa [traceF] using this
structure Qy where
  kind : Int
  a : Int
  b : Int
  w : Int
  r : Rg
  other : ByteArray
def qyAV (q : Qy) : AV := .agg [.raw (.int .i64 q.kind), .raw (.int .i64 q.a), .raw (.int .i64 q.b), .raw (.int .i64 q.w), .raw (.int .u32 q.r.lo), .raw (.int .u32 q.r.hi), .raw (.string q.other)]
theorem qy_cells (q : Qy) : (qyAV q).cells = [.raw (.int .i64 q.kind), .raw (.int .i64 q.a), .raw (.int .i64 q.b), .raw (.int .i64 q.w), .raw (.int .u32 q.r.lo), .raw (.int .u32 q.r.hi), .raw (.string q.other)] := rfl
theorem qy_fold (q : Qy) : AV.agg [.raw (.int .i64 q.kind), .raw (.int .i64 q.a), .raw (.int .i64 q.b), .raw (.int .i64 q.w), .raw (.int .u32 q.r.lo), .raw (.int .u32 q.r.hi), .raw (.string q.other)] = qyAV q := rfl
def singleB (q : Qy) : Bool := decide (q.kind = 0) || (decide (q.kind = 3) || decide (q.kind = 4))
theorem single_calls (q : Qy) : PCalls Tryz.prog 65 [qyAV q] (.raw (.bool (singleB q))) := by
  refine pbody Tryz.func65 rfl (N := 16) rfl rfl (by simp) (by simp [noIds]) fun σ => ?_
  unfold singleB
  by_cases h0 : q.kind = 0
  · (try ((first | with_reducible refine dops_go ?_ | with_reducible refine OKv_go ?_ | with_reducible refine OKr_go ?_); simp [-cellOK, qy_cells, h0])); repeat' (first | refine awp_seq ?_ | refine awp_block ?_ | (refine awp_skip ?_; try simp) | (refine awp_exit ?_; try simp) | (refine awp_ret ?_; try simp) | (refine retP_same (by simp) ?_; simp) | (refine retP_no (by simp) (by simp [noIds]) (by repeat (first | assumption | exact Ext.refl _ | refine ext_new' ?_ | refine Ext.setF ?_ (by first | assumption | (simp [new_nx', St.set, fresh_none]; done) | exact ext_fresh (by assumption)))) ?_; simp [-cellOK, qy_cells, h0, new_m, set_m, new_nx']) | ((first | refine awp_reg ?_ | refine awp_drawT (fun _ => false) mixed (by decide +kernel) ?_ | refine awp_drawT isCallO mixed (by decide +kernel) ?_); simp [-cellOK, qy_cells, h0]) | (refine guarded_split ?_ ?_ <;> (intro hg; simp only [hg]; simp [-cellOK, qy_cells, h0])) | (apply awp_cond_t; focus (simp [-cellOK, qy_cells, h0]; done)) | (apply awp_cond_f; focus (simp [-cellOK, qy_cells, h0]; done)) | (refine awp_cond ?_; simp [-cellOK, qy_cells, h0]; refine ⟨?_, ?_⟩ <;> intro hc) | fail)
  · by_cases h3 : q.kind = 3
    · (try ((first | with_reducible refine dops_go ?_ | with_reducible refine OKv_go ?_ | with_reducible refine OKr_go ?_); simp [-cellOK, qy_cells, h0, h3])); repeat' (first | refine awp_seq ?_ | refine awp_block ?_ | (refine awp_skip ?_; try simp) | (refine awp_exit ?_; try simp) | (refine awp_ret ?_; try simp) | (refine retP_same (by simp) ?_; simp) | (refine retP_no (by simp) (by simp [noIds]) (by repeat (first | assumption | exact Ext.refl _ | refine ext_new' ?_ | refine Ext.setF ?_ (by first | assumption | (simp [new_nx', St.set, fresh_none]; done) | exact ext_fresh (by assumption)))) ?_; simp [-cellOK, qy_cells, h0, h3, new_m, set_m, new_nx']) | ((first | refine awp_reg ?_ | refine awp_drawT (fun _ => false) mixed (by decide +kernel) ?_ | refine awp_drawT isCallO mixed (by decide +kernel) ?_); simp [-cellOK, qy_cells, h0, h3]) | (refine guarded_split ?_ ?_ <;> (intro hg; simp only [hg]; simp [-cellOK, qy_cells, h0, h3])) | (apply awp_cond_t; focus (simp [-cellOK, qy_cells, h0, h3]; done)) | (apply awp_cond_f; focus (simp [-cellOK, qy_cells, h0, h3]; done)) | (refine awp_cond ?_; simp [-cellOK, qy_cells, h0, h3]; refine ⟨?_, ?_⟩ <;> intro hc) | fail)
    · by_cases h4 : q.kind = 4
      · (try ((first | with_reducible refine dops_go ?_ | with_reducible refine OKv_go ?_ | with_reducible refine OKr_go ?_); simp [-cellOK, qy_cells, h0, h3, h4])); repeat' (first | refine awp_seq ?_ | refine awp_block ?_ | (refine awp_skip ?_; try simp) | (refine awp_exit ?_; try simp) | (refine awp_ret ?_; try simp) | (refine retP_same (by simp) ?_; simp) | (refine retP_no (by simp) (by simp [noIds]) (by repeat (first | assumption | exact Ext.refl _ | refine ext_new' ?_ | refine Ext.setF ?_ (by first | assumption | (simp [new_nx', St.set, fresh_none]; done) | exact ext_fresh (by assumption)))) ?_; simp [-cellOK, qy_cells, h0, h3, h4, new_m, set_m, new_nx']) | ((first | refine awp_reg ?_ | refine awp_drawT (fun _ => false) mixed (by decide +kernel) ?_ | refine awp_drawT isCallO mixed (by decide +kernel) ?_); simp [-cellOK, qy_cells, h0, h3, h4]) | (refine guarded_split ?_ ?_ <;> (intro hg; simp only [hg]; simp [-cellOK, qy_cells, h0, h3, h4])) | (apply awp_cond_t; focus (simp [-cellOK, qy_cells, h0, h3, h4]; done)) | (apply awp_cond_f; focus (simp [-cellOK, qy_cells, h0, h3, h4]; done)) | (refine awp_cond ?_; simp [-cellOK, qy_cells, h0, h3, h4]; refine ⟨?_, ?_⟩ <;> intro hc) | fail)
      · (try ((first | with_reducible refine dops_go ?_ | with_reducible refine OKv_go ?_ | with_reducible refine OKr_go ?_); simp [-cellOK, qy_cells, h0, h3, h4])); repeat' (first | refine awp_seq ?_ | refine awp_block ?_ | (refine awp_skip ?_; try simp) | (refine awp_exit ?_; try simp) | (refine awp_ret ?_; try simp) | (refine retP_same (by simp) ?_; simp) | (refine retP_no (by simp) (by simp [noIds]) (by repeat (first | assumption | exact Ext.refl _ | refine ext_new' ?_ | refine Ext.setF ?_ (by first | assumption | (simp [new_nx', St.set, fresh_none]; done) | exact ext_fresh (by assumption)))) ?_; simp [-cellOK, qy_cells, h0, h3, h4, new_m, set_m, new_nx']) | ((first | refine awp_reg ?_ | refine awp_drawT (fun _ => false) mixed (by decide +kernel) ?_ | refine awp_drawT isCallO mixed (by decide +kernel) ?_); simp [-cellOK, qy_cells, h0, h3, h4]) | (refine guarded_split ?_ ?_ <;> (intro hg; simp only [hg]; simp [-cellOK, qy_cells, h0, h3, h4])) | (apply awp_cond_t; focus (simp [-cellOK, qy_cells, h0, h3, h4]; done)) | (apply awp_cond_f; focus (simp [-cellOK, qy_cells, h0, h3, h4]; done)) | (refine awp_cond ?_; simp [-cellOK, qy_cells, h0, h3, h4]; refine ⟨?_, ?_⟩ <;> intro hc) | fail)
def noDev (n : Nw) (d : Int) : Bool := decide (d < 0) || decide ((n.t.ports.length : Int) ≤ d)
theorem noDev_calls (n : Nw) (f : Fl) (d : Int) : PCalls Tryz.prog 64 [.raw (.int .i64 d), .pp (nwAV n f).cells 0] (.raw (.bool (noDev n d))) := by
  refine pbody Tryz.func64 rfl (N := 14) rfl rfl (by simp) (by simp [noIds]) fun σ => ?_
  have hp : ∀ m, opLen Tryz.prog m 22 (intsAV n.t.ports f.p) = some (.raw (.int .i64 n.t.ports.length)) := fun m => by simp [intsAV]
  unfold noDev
  by_cases h0 : d < 0
  · (try ((first | with_reducible refine dops_go ?_ | with_reducible refine OKv_go ?_ | with_reducible refine OKr_go ?_); simp [-cellOK, nw_cells, h0])); repeat' (first | refine awp_seq ?_ | refine awp_block ?_ | (refine awp_skip ?_; try simp) | (refine awp_exit ?_; try simp) | (refine awp_ret ?_; try simp) | (refine retP_same (by simp) ?_; simp) | (refine retP_no (by simp) (by simp [noIds]) (by repeat (first | assumption | exact Ext.refl _ | refine ext_new' ?_ | refine Ext.setF ?_ (by first | assumption | (simp [new_nx', St.set, fresh_none]; done) | exact ext_fresh (by assumption)))) ?_; simp [-cellOK, nw_cells, h0, new_m, set_m, new_nx']) | ((first | refine awp_reg ?_ | refine awp_drawT (fun _ => false) mixed (by decide +kernel) ?_ | refine awp_drawT isCallO mixed (by decide +kernel) ?_); simp [-cellOK, nw_cells, h0]) | (refine guarded_split ?_ ?_ <;> (intro hg; simp only [hg]; simp [-cellOK, nw_cells, h0])) | (apply awp_cond_t; focus (simp [-cellOK, nw_cells, h0]; done)) | (apply awp_cond_f; focus (simp [-cellOK, nw_cells, h0]; done)) | (refine awp_cond ?_; simp [-cellOK, nw_cells, h0]; refine ⟨?_, ?_⟩ <;> intro hc) | fail)
  · (try ((first | with_reducible refine dops_go ?_ | with_reducible refine OKv_go ?_ | with_reducible refine OKr_go ?_); simp [-cellOK, nw_cells, h0, -opLen, hp])); repeat' (first | refine awp_seq ?_ | refine awp_block ?_ | (refine awp_skip ?_; try simp) | (refine awp_exit ?_; try simp) | (refine awp_ret ?_; try simp) | (refine retP_same (by simp) ?_; simp) | (refine retP_no (by simp) (by simp [noIds]) (by repeat (first | assumption | exact Ext.refl _ | refine ext_new' ?_ | refine Ext.setF ?_ (by first | assumption | (simp [new_nx', St.set, fresh_none]; done) | exact ext_fresh (by assumption)))) ?_; simp [-cellOK, nw_cells, h0, -opLen, hp, new_m, set_m, new_nx']) | ((first | refine awp_reg ?_ | refine awp_drawT (fun _ => false) mixed (by decide +kernel) ?_ | refine awp_drawT isCallO mixed (by decide +kernel) ?_); simp [-cellOK, nw_cells, h0, -opLen, hp]) | (refine guarded_split ?_ ?_ <;> (intro hg; simp only [hg]; simp [-cellOK, nw_cells, h0, -opLen, hp])) | (apply awp_cond_t; focus (simp [-cellOK, nw_cells, h0, -opLen, hp]; done)) | (apply awp_cond_f; focus (simp [-cellOK, nw_cells, h0, -opLen, hp]; done)) | (refine awp_cond ?_; simp [-cellOK, nw_cells, h0, -opLen, hp]; refine ⟨?_, ?_⟩ <;> intro hc) | fail)
def leavesB (t : Tk) (d : Int) : Bool := decide (t.out = 3) && decide (t.last.dev = d)
theorem leaves_calls (t : Tk) (f : Bool) (d : Int) : PCalls Tryz.prog 163 [tkAV t f, .raw (.int .i64 d)] (.raw (.bool (leavesB t d))) := by
  refine pbody Tryz.func163 rfl (N := 15) rfl rfl (by simp) (by simp [noIds]) fun σ => ?_
  unfold leavesB
  by_cases h0 : t.out = 3
  · (try ((first | with_reducible refine dops_go ?_ | with_reducible refine OKv_go ?_ | with_reducible refine OKr_go ?_); simp [-cellOK, tk_cells, h0])); repeat' (first | refine awp_seq ?_ | refine awp_block ?_ | (refine awp_skip ?_; try simp) | (refine awp_exit ?_; try simp) | (refine awp_ret ?_; try simp) | (refine retP_same (by simp) ?_; simp) | (refine retP_no (by simp) (by simp [noIds]) (by repeat (first | assumption | exact Ext.refl _ | refine ext_new' ?_ | refine Ext.setF ?_ (by first | assumption | (simp [new_nx', St.set, fresh_none]; done) | exact ext_fresh (by assumption)))) ?_; simp [-cellOK, tk_cells, h0, new_m, set_m, new_nx']) | ((first | refine awp_reg ?_ | refine awp_drawT (fun _ => false) mixed (by decide +kernel) ?_ | refine awp_drawT isCallO mixed (by decide +kernel) ?_); simp [-cellOK, tk_cells, h0]) | (refine guarded_split ?_ ?_ <;> (intro hg; simp only [hg]; simp [-cellOK, tk_cells, h0])) | (apply awp_cond_t; focus (simp [-cellOK, tk_cells, h0]; done)) | (apply awp_cond_f; focus (simp [-cellOK, tk_cells, h0]; done)) | (refine awp_cond ?_; simp [-cellOK, tk_cells, h0]; refine ⟨?_, ?_⟩ <;> intro hc) | fail)
  · (try ((first | with_reducible refine dops_go ?_ | with_reducible refine OKv_go ?_ | with_reducible refine OKr_go ?_); simp [-cellOK, tk_cells, h0])); repeat' (first | refine awp_seq ?_ | refine awp_block ?_ | (refine awp_skip ?_; try simp) | (refine awp_exit ?_; try simp) | (refine awp_ret ?_; try simp) | (refine retP_same (by simp) ?_; simp) | (refine retP_no (by simp) (by simp [noIds]) (by repeat (first | assumption | exact Ext.refl _ | refine ext_new' ?_ | refine Ext.setF ?_ (by first | assumption | (simp [new_nx', St.set, fresh_none]; done) | exact ext_fresh (by assumption)))) ?_; simp [-cellOK, tk_cells, h0, new_m, set_m, new_nx']) | ((first | refine awp_reg ?_ | refine awp_drawT (fun _ => false) mixed (by decide +kernel) ?_ | refine awp_drawT isCallO mixed (by decide +kernel) ?_); simp [-cellOK, tk_cells, h0]) | (refine guarded_split ?_ ?_ <;> (intro hg; simp only [hg]; simp [-cellOK, tk_cells, h0])) | (apply awp_cond_t; focus (simp [-cellOK, tk_cells, h0]; done)) | (apply awp_cond_f; focus (simp [-cellOK, tk_cells, h0]; done)) | (refine awp_cond ?_; simp [-cellOK, tk_cells, h0]; refine ⟨?_, ?_⟩ <;> intro hc) | fail)
def comesB (t : Tk) (d : Int) : Bool := t.path.any fun x => decide (d = x)
theorem brk0_calls (q : Qy) (t u : Tk) (f g : Bool) : PCalls Tryz.prog 162 [qyAV q, tkAV t f, tkAV u g] (.raw (.bool (!leavesB t q.b))) := by
  have h := leaves_calls t f q.b
  refine pbody Tryz.func162 rfl (N := 12) rfl rfl (by simp) (by simp [noIds]) fun σ => ?_
  (try ((first | with_reducible refine dops_go ?_ | with_reducible refine OKv_go ?_ | with_reducible refine OKr_go ?_); simp [-cellOK, qy_cells, tk_cells, tk_fold])); repeat' (first | refine awp_seq ?_ | refine awp_block ?_ | (refine awp_skip ?_; try simp) | (refine awp_exit ?_; try simp) | (refine awp_ret ?_; try simp) | (refine retP_same (by simp) ?_; simp) | (refine retP_no (by simp) (by simp [noIds]) (by repeat (first | assumption | exact Ext.refl _ | refine ext_new' ?_ | refine Ext.setF ?_ (by first | assumption | (simp [new_nx', St.set, fresh_none]; done) | exact ext_fresh (by assumption)))) ?_; simp [-cellOK, qy_cells, tk_cells, tk_fold, new_m, set_m, new_nx']) | ((first | refine awp_reg ?_ | refine awp_drawT (fun _ => false) mixed (by decide +kernel) ?_ | refine awp_drawT isCallO mixed (by decide +kernel) ?_ | refine PCalls.use (h) ?_ | refine Or.inl ⟨_, Or.inl (h), ?_⟩); simp [-cellOK, qy_cells, tk_cells, tk_fold]) | (refine guarded_split ?_ ?_ <;> (intro hg; simp only [hg]; simp [-cellOK, qy_cells, tk_cells, tk_fold])) | (apply awp_cond_t; focus (simp [-cellOK, qy_cells, tk_cells, tk_fold]; done)) | (apply awp_cond_f; focus (simp [-cellOK, qy_cells, tk_cells, tk_fold]; done)) | (refine awp_cond ?_; simp [-cellOK, qy_cells, tk_cells, tk_fold]; refine ⟨?_, ?_⟩ <;> intro hc) | fail)
theorem brk1_calls (q : Qy) (t u : Tk) (f g : Bool) : PCalls Tryz.prog 164 [qyAV q, tkAV t f, tkAV u g] (.raw (.bool (decide (t.out = 4)))) := by
  refine pbody Tryz.func164 rfl (N := 10) rfl rfl (by simp) (by simp [noIds]) fun σ => ?_
  (try ((first | with_reducible refine dops_go ?_ | with_reducible refine OKv_go ?_ | with_reducible refine OKr_go ?_); simp [-cellOK, qy_cells, tk_cells, tk_fold])); repeat' (first | refine awp_seq ?_ | refine awp_block ?_ | (refine awp_skip ?_; try simp) | (refine awp_exit ?_; try simp) | (refine awp_ret ?_; try simp) | (refine retP_same (by simp) ?_; simp) | (refine retP_no (by simp) (by simp [noIds]) (by repeat (first | assumption | exact Ext.refl _ | refine ext_new' ?_ | refine Ext.setF ?_ (by first | assumption | (simp [new_nx', St.set, fresh_none]; done) | exact ext_fresh (by assumption)))) ?_; simp [-cellOK, qy_cells, tk_cells, tk_fold, new_m, set_m, new_nx']) | ((first | refine awp_reg ?_ | refine awp_drawT (fun _ => false) mixed (by decide +kernel) ?_ | refine awp_drawT isCallO mixed (by decide +kernel) ?_); simp [-cellOK, qy_cells, tk_cells, tk_fold]) | (refine guarded_split ?_ ?_ <;> (intro hg; simp only [hg]; simp [-cellOK, qy_cells, tk_cells, tk_fold])) | (apply awp_cond_t; focus (simp [-cellOK, qy_cells, tk_cells, tk_fold]; done)) | (apply awp_cond_f; focus (simp [-cellOK, qy_cells, tk_cells, tk_fold]; done)) | (refine awp_cond ?_; simp [-cellOK, qy_cells, tk_cells, tk_fold]; refine ⟨?_, ?_⟩ <;> intro hc) | fail)
theorem brk2_calls (q : Qy) (t u : Tk) (f g : Bool) : PCalls Tryz.prog 165 [qyAV q, tkAV t f, tkAV u g] (.raw (.bool (decide (t.out = 0)))) := by
  refine pbody Tryz.func165 rfl (N := 10) rfl rfl (by simp) (by simp [noIds]) fun σ => ?_
  (try ((first | with_reducible refine dops_go ?_ | with_reducible refine OKv_go ?_ | with_reducible refine OKr_go ?_); simp [-cellOK, qy_cells, tk_cells, tk_fold])); repeat' (first | refine awp_seq ?_ | refine awp_block ?_ | (refine awp_skip ?_; try simp) | (refine awp_exit ?_; try simp) | (refine awp_ret ?_; try simp) | (refine retP_same (by simp) ?_; simp) | (refine retP_no (by simp) (by simp [noIds]) (by repeat (first | assumption | exact Ext.refl _ | refine ext_new' ?_ | refine Ext.setF ?_ (by first | assumption | (simp [new_nx', St.set, fresh_none]; done) | exact ext_fresh (by assumption)))) ?_; simp [-cellOK, qy_cells, tk_cells, tk_fold, new_m, set_m, new_nx']) | ((first | refine awp_reg ?_ | refine awp_drawT (fun _ => false) mixed (by decide +kernel) ?_ | refine awp_drawT isCallO mixed (by decide +kernel) ?_); simp [-cellOK, qy_cells, tk_cells, tk_fold]) | (refine guarded_split ?_ ?_ <;> (intro hg; simp only [hg]; simp [-cellOK, qy_cells, tk_cells, tk_fold])) | (apply awp_cond_t; focus (simp [-cellOK, qy_cells, tk_cells, tk_fold]; done)) | (apply awp_cond_f; focus (simp [-cellOK, qy_cells, tk_cells, tk_fold]; done)) | (refine awp_cond ?_; simp [-cellOK, qy_cells, tk_cells, tk_fold]; refine ⟨?_, ?_⟩ <;> intro hc) | fail)
theorem brk3_calls (q : Qy) (t u : Tk) (f g : Bool) (ht : t.path.length < 2 ^ 60) : PCalls Tryz.prog 166 [qyAV q, tkAV t f, tkAV u g] (.raw (.bool (comesB t q.b))) := by
  have h := contains_calls t.path f q.b ht
  unfold comesB
  refine pbody Tryz.func166 rfl (N := 12) rfl rfl (by simp) (by simp [noIds]) fun σ => ?_
  (try ((first | with_reducible refine dops_go ?_ | with_reducible refine OKv_go ?_ | with_reducible refine OKr_go ?_); simp [-cellOK, qy_cells, tk_cells, tk_fold])); repeat' (first | refine awp_seq ?_ | refine awp_block ?_ | (refine awp_skip ?_; try simp) | (refine awp_exit ?_; try simp) | (refine awp_ret ?_; try simp) | (refine retP_same (by simp) ?_; simp) | (refine retP_no (by simp) (by simp [noIds]) (by repeat (first | assumption | exact Ext.refl _ | refine ext_new' ?_ | refine Ext.setF ?_ (by first | assumption | (simp [new_nx', St.set, fresh_none]; done) | exact ext_fresh (by assumption)))) ?_; simp [-cellOK, qy_cells, tk_cells, tk_fold, new_m, set_m, new_nx']) | ((first | refine awp_reg ?_ | refine awp_drawT (fun _ => false) mixed (by decide +kernel) ?_ | refine awp_drawT isCallO mixed (by decide +kernel) ?_ | refine PCalls.use (h) ?_ | refine Or.inl ⟨_, Or.inl (h), ?_⟩); simp [-cellOK, qy_cells, tk_cells, tk_fold]) | (refine guarded_split ?_ ?_ <;> (intro hg; simp only [hg]; simp [-cellOK, qy_cells, tk_cells, tk_fold])) | (apply awp_cond_t; focus (simp [-cellOK, qy_cells, tk_cells, tk_fold]; done)) | (apply awp_cond_f; focus (simp [-cellOK, qy_cells, tk_cells, tk_fold]; done)) | (refine awp_cond ?_; simp [-cellOK, qy_cells, tk_cells, tk_fold]; refine ⟨?_, ?_⟩ <;> intro hc) | fail)
theorem brk4_calls (q : Qy) (t u : Tk) (f g : Bool) (ht : t.path.length < 2 ^ 60) : PCalls Tryz.prog 167 [qyAV q, tkAV t f, tkAV u g] (.raw (.bool (leavesB t q.b && !comesB t q.w))) := by
  have h0 := leaves_calls t f q.b
  have h := contains_calls t.path f q.w ht
  unfold comesB
  generalize (t.path.any fun x => decide (q.w = x)) = c at h ⊢
  generalize leavesB t q.b = b at h0 ⊢
  refine pbody Tryz.func167 rfl (N := 19) rfl rfl (by simp) (by simp [noIds]) fun σ => ?_
  cases b with
  | true => (try ((first | with_reducible refine dops_go ?_ | with_reducible refine OKv_go ?_ | with_reducible refine OKr_go ?_); simp [-cellOK, qy_cells, tk_cells, tk_fold])); repeat' (first | refine awp_seq ?_ | refine awp_block ?_ | (refine awp_skip ?_; try simp) | (refine awp_exit ?_; try simp) | (refine awp_ret ?_; try simp) | (refine retP_same (by simp) ?_; simp) | (refine retP_no (by simp) (by simp [noIds]) (by repeat (first | assumption | exact Ext.refl _ | refine ext_new' ?_ | refine Ext.setF ?_ (by first | assumption | (simp [new_nx', St.set, fresh_none]; done) | exact ext_fresh (by assumption)))) ?_; simp [-cellOK, qy_cells, tk_cells, tk_fold, new_m, set_m, new_nx']) | ((first | refine awp_reg ?_ | refine awp_drawT (fun _ => false) mixed (by decide +kernel) ?_ | refine awp_drawT isCallO mixed (by decide +kernel) ?_ | refine PCalls.use (h0) ?_ | refine Or.inl ⟨_, Or.inl (h0), ?_⟩ | refine PCalls.use (h) ?_ | refine Or.inl ⟨_, Or.inl (h), ?_⟩); simp [-cellOK, qy_cells, tk_cells, tk_fold]) | (refine guarded_split ?_ ?_ <;> (intro hg; simp only [hg]; simp [-cellOK, qy_cells, tk_cells, tk_fold])) | (apply awp_cond_t; focus (simp [-cellOK, qy_cells, tk_cells, tk_fold]; done)) | (apply awp_cond_f; focus (simp [-cellOK, qy_cells, tk_cells, tk_fold]; done)) | (refine awp_cond ?_; simp [-cellOK, qy_cells, tk_cells, tk_fold]; refine ⟨?_, ?_⟩ <;> intro hc) | fail)
  | false => (try ((first | with_reducible refine dops_go ?_ | with_reducible refine OKv_go ?_ | with_reducible refine OKr_go ?_); simp [-cellOK, qy_cells, tk_cells, tk_fold])); repeat' (first | refine awp_seq ?_ | refine awp_block ?_ | (refine awp_skip ?_; try simp) | (refine awp_exit ?_; try simp) | (refine awp_ret ?_; try simp) | (refine retP_same (by simp) ?_; simp) | (refine retP_no (by simp) (by simp [noIds]) (by repeat (first | assumption | exact Ext.refl _ | refine ext_new' ?_ | refine Ext.setF ?_ (by first | assumption | (simp [new_nx', St.set, fresh_none]; done) | exact ext_fresh (by assumption)))) ?_; simp [-cellOK, qy_cells, tk_cells, tk_fold, new_m, set_m, new_nx']) | ((first | refine awp_reg ?_ | refine awp_drawT (fun _ => false) mixed (by decide +kernel) ?_ | refine awp_drawT isCallO mixed (by decide +kernel) ?_ | refine PCalls.use (h0) ?_ | refine Or.inl ⟨_, Or.inl (h0), ?_⟩ | refine PCalls.use (h) ?_ | refine Or.inl ⟨_, Or.inl (h), ?_⟩); simp [-cellOK, qy_cells, tk_cells, tk_fold]) | (refine guarded_split ?_ ?_ <;> (intro hg; simp only [hg]; simp [-cellOK, qy_cells, tk_cells, tk_fold])) | (apply awp_cond_t; focus (simp [-cellOK, qy_cells, tk_cells, tk_fold]; done)) | (apply awp_cond_f; focus (simp [-cellOK, qy_cells, tk_cells, tk_fold]; done)) | (refine awp_cond ?_; simp [-cellOK, qy_cells, tk_cells, tk_fold]; refine ⟨?_, ?_⟩ <;> intro hc) | fail)
theorem brk5_calls (q : Qy) (t u : Tk) (f g : Bool) (ht : t.path.length < 2 ^ 60) (hu : u.path.length < 2 ^ 60) : PCalls Tryz.prog 168 [qyAV q, tkAV t f, tkAV u g] (.raw (.bool (!decide (t = u)))) := by
  have h := tkSame_calls t u f g ht hu
  generalize decide (t = u) = b at h ⊢
  refine pbody Tryz.func168 rfl (N := 11) rfl rfl (by simp) (by simp [noIds]) fun σ => ?_
  (try ((first | with_reducible refine dops_go ?_ | with_reducible refine OKv_go ?_ | with_reducible refine OKr_go ?_); simp [-cellOK, qy_cells, tk_cells, tk_fold])); repeat' (first | refine awp_seq ?_ | refine awp_block ?_ | (refine awp_skip ?_; try simp) | (refine awp_exit ?_; try simp) | (refine awp_ret ?_; try simp) | (refine retP_same (by simp) ?_; simp) | (refine retP_no (by simp) (by simp [noIds]) (by repeat (first | assumption | exact Ext.refl _ | refine ext_new' ?_ | refine Ext.setF ?_ (by first | assumption | (simp [new_nx', St.set, fresh_none]; done) | exact ext_fresh (by assumption)))) ?_; simp [-cellOK, qy_cells, tk_cells, tk_fold, new_m, set_m, new_nx']) | ((first | refine awp_reg ?_ | refine awp_drawT (fun _ => false) mixed (by decide +kernel) ?_ | refine awp_drawT isCallO mixed (by decide +kernel) ?_ | refine PCalls.use (h) ?_ | refine Or.inl ⟨_, Or.inl (h), ?_⟩); simp [-cellOK, qy_cells, tk_cells, tk_fold]) | (refine guarded_split ?_ ?_ <;> (intro hg; simp only [hg]; simp [-cellOK, qy_cells, tk_cells, tk_fold])) | (apply awp_cond_t; focus (simp [-cellOK, qy_cells, tk_cells, tk_fold]; done)) | (apply awp_cond_f; focus (simp [-cellOK, qy_cells, tk_cells, tk_fold]; done)) | (refine awp_cond ?_; simp [-cellOK, qy_cells, tk_cells, tk_fold]; refine ⟨?_, ?_⟩ <;> intro hc) | fail)
def brkAV : AV := .agg [.fn (.func 162) [] [], .fn (.func 164) [] [], .fn (.func 165) [] [], .fn (.func 166) [] [], .fn (.func 167) [] [], .fn (.func 168) [] []]
theorem broken_calls : PCalls Tryz.prog 117 [] brkAV := by
  refine pbody Tryz.func117 rfl (N := 2) rfl rfl (by simp) (by simp [noIds, brkAV]) fun σ => ?_
  unfold brkAV
  have f0 : σ.m ⟨0, σ.nx 0, 6⟩ = none := fresh_none _ _ _
  (try ((first | with_reducible refine dops_go ?_ | with_reducible refine OKv_go ?_ | with_reducible refine OKr_go ?_); simp [-cellOK])); repeat' (first | refine awp_seq ?_ | refine awp_block ?_ | (refine awp_skip ?_; try simp) | (refine awp_exit ?_; try simp) | (refine awp_ret ?_; try simp) | (refine retP_same (by simp) ?_; simp) | (refine retP_no (by simp) (by simp [noIds]) (by repeat (first | assumption | exact Ext.refl _ | refine ext_new' ?_ | refine Ext.setF ?_ (by first | assumption | (simp [new_nx', St.set, fresh_none]; done) | exact ext_fresh (by assumption)))) ?_; simp [-cellOK, new_m, set_m, new_nx']) | ((first | refine awp_reg ?_ | refine awp_drawT (fun _ => false) mixed (by decide +kernel) ?_ | refine awp_drawT isCallO mixed (by decide +kernel) ?_); simp [-cellOK]) | (refine guarded_split ?_ ?_ <;> (intro hg; simp only [hg]; simp [-cellOK])) | (apply awp_cond_t; focus (simp [-cellOK]; done)) | (apply awp_cond_f; focus (simp [-cellOK]; done)) | (refine awp_cond ?_; simp [-cellOK]; refine ⟨?_, ?_⟩ <;> intro hc) | fail)
end Go.Proofs.YtanimmdlgmkmkaaGreat.Av


/- Queries: right ones, sources, what breaks one. -/
namespace Go.Proofs.YtanimmdlgmkmkaaGreat.Av
open Go
set_option linter.unusedSimpArgs false
set_option linter.unusedVariables false
set_option maxRecDepth 100000
set_option maxHeartbeats 4000000
set_option pp.maxSteps 600

/-- A call to which an owned object is given for good. -/
theorem PCalls.useFz {P : Program} {f : FuncId} {σ σ0 : St} {args args' : List AV} {r : AV} {K : AV → St → Prop} (j : Id) (h : PCalls P f args' r) (hj : σ0.m j = none) (hE : Ext σ0 σ) (ha : args.map (giveUp (σ.del j).m σ.m) = args')
    (k : ∀ τ, Ext σ0 τ → (∀ i o, i ≠ j → σ.m i = some o → τ.m i = some o) → (∀ s, σ.nx s ≤ τ.nx s) → K r τ) : ACalls P f args σ K := by
  refine ACalls.freeze j ?_
  rw [ha]
  refine h.use (k _ ⟨fun i o ho => ?_, hE.nx⟩ (fun i o hi ho => by rw [del_other hi]; exact ho) fun _ => Nat.le_refl _)
  rw [del_other (fun e => by rw [e, hj] at ho; cases ho)]; exact hE.m i o ho
def noOther (q : Qy) : Bool := q.other.toList == (ByteArray.toList ⟨#[]⟩)
def rightQ (n : Nw) (q : Qy) : Bool :=
  !(decide (q.kind < 0) || (decide (5 < q.kind) || decide (q.r.hi < q.r.lo))) && (!([q.a, q.b, q.w].any (noDev n)) && ((singleB q || (decide (q.a = 0) && decide (q.b = 0))) && ((decide (q.kind = 4) || decide (q.w = 0)) && (decide (q.kind = 5) || noOther q))))
theorem rightQ_calls (n : Nw) (f : Fl) (q : Qy) : PCalls Tryz.prog 16 [nwAV n f, qyAV q] (.raw (.bool (rightQ n q))) := by
  have hs := single_calls q
  have hc := intContains_calls (g := 64) (caps := [.pp (nwAV n f).cells 0]) (p := noDev n) [q.a, q.b, q.w] false (by simp) (fun d _ => noDev_calls n f d)
  unfold rightQ noOther
  generalize singleB q = sb at hs ⊢
  generalize [q.a, q.b, q.w].any (noDev n) = nb at hc ⊢
  obtain ⟨ob, hob⟩ : ∃ b, (q.other.toList == (ByteArray.toList ⟨#[]⟩)) = b := ⟨_, rfl⟩
  rw [hob]
  have hstr : ∀ op m, op = BinOp.eql → m = Value.string ⟨#[]⟩ → opBin Tryz.prog op 9 (.raw (.string q.other)) (.raw m) = some (.raw (.bool ob)) := fun op m h1 h2 => by
    subst h1; subst h2
    show Option.map AV.raw (strBin .eql q.other ⟨#[]⟩) = _
    simp only [strBin, hob, Option.map_some]
  have hstr := hstr .eql _ rfl rfl
  refine pbody Tryz.func16 rfl (N := 65) rfl rfl (by simp) (by simp [noIds]) fun σ => ?_
  repeat (refine awp_seq ?_)
  refine awp_reg ?_
  simp [-cellOK, nw_cells, qy_cells]
  refine awp_freeze ⟨2, σ.nx 2, 3⟩ ?_
  refine awp_freeze ⟨3, σ.nx 3, 7⟩ ?_
  generalize hτ : St.del _ _ = τ
  generalize hA : (fun t => giveUp _ _ _) = A
  have a2 : A 2 = .pp (nwAV n f).cells 0 := by rw [← hA, ← hτ]; simp [giveUp, St.new, St.del, nw_cells]
  have a3 : A 3 = .pp (qyAV q).cells 0 := by rw [← hA, ← hτ]; simp [giveUp, St.new, St.del, nw_cells, qy_cells]
  have hE : Ext σ τ := by
    rw [← hτ]
    refine ⟨fun i o h => ?_, fun s => ?_⟩
    · have q1 : i ≠ ⟨2, σ.nx 2, 3⟩ := fun e => by rw [e, fresh_none] at h; cases h
      have q2 : i ≠ ⟨3, σ.nx 3, 7⟩ := fun e => by rw [e, fresh_none] at h; cases h
      simp [St.del, St.new, q1, q2, h]
    · simp only [St.del, St.new]
      repeat' split
      all_goals omega
  clear hτ hA
  by_cases k0 : q.kind < 0
  · (try ((first | with_reducible refine dops_go ?_ | with_reducible refine OKv_go ?_ | with_reducible refine OKr_go ?_); simp [-cellOK, a2, a3, nw_cells, qy_cells, k0])); repeat' (first | refine awp_seq ?_ | refine awp_block ?_ | (refine awp_skip ?_; try simp) | (refine awp_exit ?_; try simp) | (refine awp_ret ?_; try simp) | (refine retP_same (by simp) ?_; simp) | (refine retP_no (by simp) (by simp [noIds]) (by repeat (first | assumption | exact Ext.refl _ | refine ext_new' ?_ | refine Ext.setF ?_ (by first | assumption | (simp [new_nx', St.set, fresh_none]; done) | exact ext_fresh (by assumption)))) ?_; simp [-cellOK, a2, a3, nw_cells, qy_cells, k0, new_m, set_m, new_nx']) | ((first | refine awp_reg ?_ | refine awp_drawT (fun _ => false) mixed (by decide +kernel) ?_ | refine awp_drawT isCallO mixed (by decide +kernel) ?_); simp [-cellOK, a2, a3, nw_cells, qy_cells, k0]) | (refine guarded_split ?_ ?_ <;> (intro hg; simp only [hg]; simp [-cellOK, a2, a3, nw_cells, qy_cells, k0])) | (apply awp_cond_t; focus (simp [-cellOK, a2, a3, nw_cells, qy_cells, k0]; done)) | (apply awp_cond_f; focus (simp [-cellOK, a2, a3, nw_cells, qy_cells, k0]; done)) | (refine awp_cond ?_; simp [-cellOK, a2, a3, nw_cells, qy_cells, k0]; refine ⟨?_, ?_⟩ <;> intro hc) | fail)
  by_cases k1 : 5 < q.kind
  · (try ((first | with_reducible refine dops_go ?_ | with_reducible refine OKv_go ?_ | with_reducible refine OKr_go ?_); simp [-cellOK, a2, a3, nw_cells, qy_cells, k0, k1])); repeat' (first | refine awp_seq ?_ | refine awp_block ?_ | (refine awp_skip ?_; try simp) | (refine awp_exit ?_; try simp) | (refine awp_ret ?_; try simp) | (refine retP_same (by simp) ?_; simp) | (refine retP_no (by simp) (by simp [noIds]) (by repeat (first | assumption | exact Ext.refl _ | refine ext_new' ?_ | refine Ext.setF ?_ (by first | assumption | (simp [new_nx', St.set, fresh_none]; done) | exact ext_fresh (by assumption)))) ?_; simp [-cellOK, a2, a3, nw_cells, qy_cells, k0, k1, new_m, set_m, new_nx']) | ((first | refine awp_reg ?_ | refine awp_drawT (fun _ => false) mixed (by decide +kernel) ?_ | refine awp_drawT isCallO mixed (by decide +kernel) ?_); simp [-cellOK, a2, a3, nw_cells, qy_cells, k0, k1]) | (refine guarded_split ?_ ?_ <;> (intro hg; simp only [hg]; simp [-cellOK, a2, a3, nw_cells, qy_cells, k0, k1])) | (apply awp_cond_t; focus (simp [-cellOK, a2, a3, nw_cells, qy_cells, k0, k1]; done)) | (apply awp_cond_f; focus (simp [-cellOK, a2, a3, nw_cells, qy_cells, k0, k1]; done)) | (refine awp_cond ?_; simp [-cellOK, a2, a3, nw_cells, qy_cells, k0, k1]; refine ⟨?_, ?_⟩ <;> intro hc) | fail)
  by_cases k2 : q.r.hi < q.r.lo
  · (try ((first | with_reducible refine dops_go ?_ | with_reducible refine OKv_go ?_ | with_reducible refine OKr_go ?_); simp [-cellOK, a2, a3, nw_cells, qy_cells, k0, k1, k2])); repeat' (first | refine awp_seq ?_ | refine awp_block ?_ | (refine awp_skip ?_; try simp) | (refine awp_exit ?_; try simp) | (refine awp_ret ?_; try simp) | (refine retP_same (by simp) ?_; simp) | (refine retP_no (by simp) (by simp [noIds]) (by repeat (first | assumption | exact Ext.refl _ | refine ext_new' ?_ | refine Ext.setF ?_ (by first | assumption | (simp [new_nx', St.set, fresh_none]; done) | exact ext_fresh (by assumption)))) ?_; simp [-cellOK, a2, a3, nw_cells, qy_cells, k0, k1, k2, new_m, set_m, new_nx']) | ((first | refine awp_reg ?_ | refine awp_drawT (fun _ => false) mixed (by decide +kernel) ?_ | refine awp_drawT isCallO mixed (by decide +kernel) ?_); simp [-cellOK, a2, a3, nw_cells, qy_cells, k0, k1, k2]) | (refine guarded_split ?_ ?_ <;> (intro hg; simp only [hg]; simp [-cellOK, a2, a3, nw_cells, qy_cells, k0, k1, k2])) | (apply awp_cond_t; focus (simp [-cellOK, a2, a3, nw_cells, qy_cells, k0, k1, k2]; done)) | (apply awp_cond_f; focus (simp [-cellOK, a2, a3, nw_cells, qy_cells, k0, k1, k2]; done)) | (refine awp_cond ?_; simp [-cellOK, a2, a3, nw_cells, qy_cells, k0, k1, k2]; refine ⟨?_, ?_⟩ <;> intro hc) | fail)
  (try ((first | with_reducible refine dops_go ?_ | with_reducible refine OKv_go ?_ | with_reducible refine OKr_go ?_); simp [-cellOK, a2, a3, nw_cells, qy_cells, k0, k1, k2])); repeat' (first | refine awp_seq ?_ | refine awp_block ?_ | (refine awp_skip ?_; try simp) | (refine awp_exit ?_; try simp) | (refine awp_ret ?_; try simp) | (refine retP_same (by simp) ?_; simp) | (refine retP_no (by simp) (by simp [noIds]) (by repeat (first | assumption | exact Ext.refl _ | refine ext_new' ?_ | refine Ext.setF ?_ (by first | assumption | (simp [new_nx', St.set, fresh_none]; done) | exact ext_fresh (by assumption)))) ?_; simp [-cellOK, a2, a3, nw_cells, qy_cells, k0, k1, k2, new_m, set_m, new_nx']) | ((first | refine awp_reg ?_ | refine awp_drawT (fun _ => false) mixed (by decide +kernel) ?_ | refine awp_drawT isCallO mixed (by decide +kernel) ?_); simp [-cellOK, a2, a3, nw_cells, qy_cells, k0, k1, k2]) | (refine guarded_split ?_ ?_ <;> (intro hg; simp only [hg]; simp [-cellOK, a2, a3, nw_cells, qy_cells, k0, k1, k2])) | (apply awp_cond_t; focus (simp [-cellOK, a2, a3, nw_cells, qy_cells, k0, k1, k2]; done)) | (apply awp_cond_f; focus (simp [-cellOK, a2, a3, nw_cells, qy_cells, k0, k1, k2]; done)) | (refine awp_cond ?_; simp [-cellOK, a2, a3, nw_cells, qy_cells, k0, k1, k2]; refine ⟨?_, ?_⟩ <;> intro hc) | fail)
  refine hc.useFz (σ0 := σ) ⟨29, τ.nx 29, 1⟩ (ext_fresh hE) (by repeat (first | assumption | exact Ext.refl _ | refine ext_new' ?_ | refine Ext.setF ?_ (by first | assumption | (simp [new_nx', St.set, fresh_none]; done) | exact ext_fresh (by assumption)))) (by simp [giveUp, new_m, nw_cells, intsAV, iAV]) ?_
  intro τ' hE' _ _
  cases nb with
  | true => (try ((first | with_reducible refine dops_go ?_ | with_reducible refine OKv_go ?_ | with_reducible refine OKr_go ?_); simp [-cellOK, a2, a3, nw_cells, qy_cells, k0, k1, k2])); repeat' (first | refine awp_seq ?_ | refine awp_block ?_ | (refine awp_skip ?_; try simp) | (refine awp_exit ?_; try simp) | (refine awp_ret ?_; try simp) | (refine retP_same (by simp) ?_; simp) | (refine retP_no (by simp) (by simp [noIds]) (by repeat (first | assumption | exact Ext.refl _ | refine ext_new' ?_ | refine Ext.setF ?_ (by first | assumption | (simp [new_nx', St.set, fresh_none]; done) | exact ext_fresh (by assumption)))) ?_; simp [-cellOK, a2, a3, nw_cells, qy_cells, k0, k1, k2, new_m, set_m, new_nx']) | ((first | refine awp_reg ?_ | refine awp_drawT (fun _ => false) mixed (by decide +kernel) ?_ | refine awp_drawT isCallO mixed (by decide +kernel) ?_); simp [-cellOK, a2, a3, nw_cells, qy_cells, k0, k1, k2]) | (refine guarded_split ?_ ?_ <;> (intro hg; simp only [hg]; simp [-cellOK, a2, a3, nw_cells, qy_cells, k0, k1, k2])) | (apply awp_cond_t; focus (simp [-cellOK, a2, a3, nw_cells, qy_cells, k0, k1, k2]; done)) | (apply awp_cond_f; focus (simp [-cellOK, a2, a3, nw_cells, qy_cells, k0, k1, k2]; done)) | (refine awp_cond ?_; simp [-cellOK, a2, a3, nw_cells, qy_cells, k0, k1, k2]; refine ⟨?_, ?_⟩ <;> intro hc) | fail)
  | false =>
    (try ((first | with_reducible refine dops_go ?_ | with_reducible refine OKv_go ?_ | with_reducible refine OKr_go ?_); simp [-cellOK, a2, a3, nw_cells, qy_cells, qy_fold, k0, k1, k2])); repeat' (first | refine awp_seq ?_ | refine awp_block ?_ | (refine awp_skip ?_; try simp) | (refine awp_exit ?_; try simp) | (refine awp_ret ?_; try simp) | (refine retP_same (by simp) ?_; simp) | (refine retP_no (by simp) (by simp [noIds]) (by repeat (first | assumption | exact Ext.refl _ | refine ext_new' ?_ | refine Ext.setF ?_ (by first | assumption | (simp [new_nx', St.set, fresh_none]; done) | exact ext_fresh (by assumption)))) ?_; simp [-cellOK, a2, a3, nw_cells, qy_cells, qy_fold, k0, k1, k2, new_m, set_m, new_nx']) | ((first | refine awp_reg ?_ | refine awp_drawT (fun _ => false) mixed (by decide +kernel) ?_ | refine awp_drawT isCallO mixed (by decide +kernel) ?_); simp [-cellOK, a2, a3, nw_cells, qy_cells, qy_fold, k0, k1, k2]) | (refine guarded_split ?_ ?_ <;> (intro hg; simp only [hg]; simp [-cellOK, a2, a3, nw_cells, qy_cells, qy_fold, k0, k1, k2])) | (apply awp_cond_t; focus (simp [-cellOK, a2, a3, nw_cells, qy_cells, qy_fold, k0, k1, k2]; done)) | (apply awp_cond_f; focus (simp [-cellOK, a2, a3, nw_cells, qy_cells, qy_fold, k0, k1, k2]; done)) | (refine awp_cond ?_; simp [-cellOK, a2, a3, nw_cells, qy_cells, qy_fold, k0, k1, k2]; refine ⟨?_, ?_⟩ <;> intro hc) | fail)
    refine hs.use ?_
    cases sb <;> by_cases qa : q.a = 0 <;> by_cases qb : q.b = 0 <;> by_cases k4 : q.kind = 4 <;> by_cases qw : q.w = 0 <;> by_cases k5 : q.kind = 5 <;> (first | (exfalso; omega) | ((try ((first | with_reducible refine dops_go ?_ | with_reducible refine OKv_go ?_ | with_reducible refine OKr_go ?_); simp [-cellOK, a2, a3, nw_cells, qy_cells, k0, k1, k2, qa, qb, qw, k4, k5, -opBin, opBin_raw, hstr])); repeat' (first | refine awp_seq ?_ | refine awp_block ?_ | (refine awp_skip ?_; try simp) | (refine awp_exit ?_; try simp) | (refine awp_ret ?_; try simp) | (refine retP_same (by simp) ?_; simp) | (refine retP_no (by simp) (by simp [noIds]) (by repeat (first | assumption | exact Ext.refl _ | refine ext_new' ?_ | refine Ext.setF ?_ (by first | assumption | (simp [new_nx', St.set, fresh_none]; done) | exact ext_fresh (by assumption)))) ?_; simp [-cellOK, a2, a3, nw_cells, qy_cells, k0, k1, k2, qa, qb, qw, k4, k5, -opBin, opBin_raw, hstr, new_m, set_m, new_nx']) | ((first | refine awp_reg ?_ | refine awp_drawT (fun _ => false) mixed (by decide +kernel) ?_ | refine awp_drawT isCallO mixed (by decide +kernel) ?_); simp [-cellOK, a2, a3, nw_cells, qy_cells, k0, k1, k2, qa, qb, qw, k4, k5, -opBin, opBin_raw, hstr]) | (refine guarded_split ?_ ?_ <;> (intro hg; simp only [hg]; simp [-cellOK, a2, a3, nw_cells, qy_cells, k0, k1, k2, qa, qb, qw, k4, k5, -opBin, opBin_raw, hstr])) | (apply awp_cond_t; focus (simp [-cellOK, a2, a3, nw_cells, qy_cells, k0, k1, k2, qa, qb, qw, k4, k5, -opBin, opBin_raw, hstr]; done)) | (apply awp_cond_f; focus (simp [-cellOK, a2, a3, nw_cells, qy_cells, k0, k1, k2, qa, qb, qw, k4, k5, -opBin, opBin_raw, hstr]; done)) | (refine awp_cond ?_; simp [-cellOK, a2, a3, nw_cells, qy_cells, k0, k1, k2, qa, qb, qw, k4, k5, -opBin, opBin_raw, hstr]; refine ⟨?_, ?_⟩ <;> intro hc) | fail)))
def sourcesQ (n : Nw) (q : Qy) : List Int := if singleB q = true then [q.a] else (List.range n.t.ports.length).map fun i : Nat => (i : Int)
theorem sources_calls (n : Nw) (f : Fl) (q : Qy) (hl : n.t.ports.length < 2 ^ 44) : PCalls Tryz.prog 21 [nwAV n f, qyAV q] (intsAV (sourcesQ n q) false) := by
  have hs := single_calls q
  unfold sourcesQ
  generalize singleB q = sb at hs ⊢
  refine pbody Tryz.func21 rfl (N := 25) rfl rfl (by simp) (by simp [noIds]) fun σ => ?_
  have hp : ∀ m, opLen Tryz.prog m 22 (intsAV n.t.ports f.p) = some (.raw (.int .i64 n.t.ports.length)) := fun m => by simp [intsAV]
  cases sb with
  | true =>
    (try ((first | with_reducible refine dops_go ?_ | with_reducible refine OKv_go ?_ | with_reducible refine OKr_go ?_); simp [-cellOK, nw_cells, qy_cells, qy_fold, new_m, new_nx'])); repeat' (first | refine awp_seq ?_ | refine awp_block ?_ | (refine awp_skip ?_; try simp) | (refine awp_exit ?_; try simp) | (refine awp_ret ?_; try simp) | ((first | refine awp_reg ?_ | refine awp_drawT (fun _ => false) mixed (by decide +kernel) ?_ | refine awp_drawT isCallO mixed (by decide +kernel) ?_ | refine PCalls.use (hs) ?_ | refine Or.inl ⟨_, Or.inl (hs), ?_⟩); simp [-cellOK, nw_cells, qy_cells, qy_fold, new_m, new_nx']) | (refine guarded_split ?_ ?_ <;> (intro hg; simp only [hg]; simp [-cellOK, nw_cells, qy_cells, qy_fold, new_m, new_nx'])) | (apply awp_cond_t; focus (simp [-cellOK, nw_cells, qy_cells, qy_fold, new_m, new_nx']; done)) | (apply awp_cond_f; focus (simp [-cellOK, nw_cells, qy_cells, qy_fold, new_m, new_nx']; done)) | (refine awp_cond ?_; simp [-cellOK, nw_cells, qy_cells, qy_fold, new_m, new_nx']; refine ⟨?_, ?_⟩ <;> intro hc) | fail)
    refine retP_give (x := .rs ⟨11, σ.nx 11, 1⟩ 0 1) (.inr rfl) (by repeat (first | assumption | exact Ext.refl _ | refine ext_new' ?_ | refine Ext.setF ?_ (by first | assumption | (simp [new_nx', St.set, fresh_none]; done) | exact ext_fresh (by assumption)))) ?_ ?_
    · simp [new_nx']
    · simp [giveUps, giveUp, fresh_none, new_m, new_nx', intsAV, iAV]
  | false =>
    (try ((first | with_reducible refine dops_go ?_ | with_reducible refine OKv_go ?_ | with_reducible refine OKr_go ?_); simp [-cellOK, nw_cells, qy_cells, qy_fold, new_m, new_nx', -opLen, hp])); repeat' (first | refine awp_seq ?_ | refine awp_block ?_ | (refine awp_skip ?_; try simp) | (refine awp_exit ?_; try simp) | (refine awp_ret ?_; try simp) | (refine retP_same (by simp) ?_; simp) | (refine retP_no (by simp) (by simp [noIds]) (by repeat (first | assumption | exact Ext.refl _ | refine ext_new' ?_ | refine Ext.setF ?_ (by first | assumption | (simp [new_nx', St.set, fresh_none]; done) | exact ext_fresh (by assumption)))) ?_; simp [-cellOK, nw_cells, qy_cells, qy_fold, new_m, new_nx', -opLen, hp, new_m, set_m, new_nx']) | ((first | refine awp_reg ?_ | refine awp_drawT (fun _ => false) mixed (by decide +kernel) ?_ | refine awp_drawT isCallO mixed (by decide +kernel) ?_ | refine PCalls.use (hs) ?_ | refine Or.inl ⟨_, Or.inl (hs), ?_⟩); simp [-cellOK, nw_cells, qy_cells, qy_fold, new_m, new_nx', -opLen, hp]) | (refine guarded_split ?_ ?_ <;> (intro hg; simp only [hg]; simp [-cellOK, nw_cells, qy_cells, qy_fold, new_m, new_nx', -opLen, hp])) | (apply awp_cond_t; focus (simp [-cellOK, nw_cells, qy_cells, qy_fold, new_m, new_nx', -opLen, hp]; done)) | (apply awp_cond_f; focus (simp [-cellOK, nw_cells, qy_cells, qy_fold, new_m, new_nx', -opLen, hp]; done)) | (refine awp_cond ?_; simp [-cellOK, nw_cells, qy_cells, qy_fold, new_m, new_nx', -opLen, hp]; refine ⟨?_, ?_⟩ <;> intro hc) | fail)
    refine awp_loopH (fun n' B ρ => Ext σ ρ ∧ B 15 = .raw (.int .i64 n.t.ports.length) ∧ ∃ (i : Nat) (v : AV), B 16 = .raw (.int .i64 i) ∧ i ≤ n.t.ports.length ∧ n' = n.t.ports.length - i ∧ B 5 = v ∧ OwnL σ ρ 1 v (((List.range i).map fun i : Nat => (i : Int)).map iAV)) n.t.ports.length ?_ ?_
    · exact ⟨(by repeat (first | assumption | exact Ext.refl _ | refine ext_new' ?_ | refine Ext.setF ?_ (by first | assumption | (simp [new_nx', St.set, fresh_none]; done) | exact ext_fresh (by assumption)))), by simp, 0, .sl 0 [] true, by simp, by omega, by omega, by simp, .inl ⟨by simp, rfl⟩⟩
    rintro n' B ρ ⟨hE, a15, i, v, a16, hi, rfl, a5, hO⟩ I1 hI1
    by_cases hlt : i < n.t.ports.length
    · have w1 : IntKind.i64.wrap ((i : Int) + 1) = ((i + 1 : Nat) : Int) := by rw [wrap64 (by omega) (by omega)]; omega
      (try ((first | with_reducible refine dops_go ?_ | with_reducible refine OKv_go ?_ | with_reducible refine OKr_go ?_); simp [-cellOK, a5, a15, a16, hlt, w1, -opAppend])); repeat' (first | refine awp_seq ?_ | refine awp_block ?_ | (refine awp_skip ?_; try simp) | (refine awp_exit ?_; try simp) | (refine awp_ret ?_; try simp) | (refine retP_same (by simp) ?_; simp) | (refine retP_no (by simp) (by simp [noIds]) (by repeat (first | assumption | exact Ext.refl _ | refine ext_new' ?_ | refine Ext.setF ?_ (by first | assumption | (simp [new_nx', St.set, fresh_none]; done) | exact ext_fresh (by assumption)))) ?_; simp [-cellOK, a5, a15, a16, hlt, w1, -opAppend, new_m, set_m, new_nx']) | ((first | refine awp_reg ?_ | refine awp_drawT (fun _ => false) mixed (by decide +kernel) ?_ | refine awp_drawT isCallO mixed (by decide +kernel) ?_); simp [-cellOK, a5, a15, a16, hlt, w1, -opAppend]) | (refine guarded_split ?_ ?_ <;> (intro hg; simp only [hg]; simp [-cellOK, a5, a15, a16, hlt, w1, -opAppend])) | (apply awp_cond_t; focus (simp [-cellOK, a5, a15, a16, hlt, w1, -opAppend]; done)) | (apply awp_cond_f; focus (simp [-cellOK, a5, a15, a16, hlt, w1, -opAppend]; done)) | (refine awp_cond ?_; simp [-cellOK, a5, a15, a16, hlt, w1, -opAppend]; refine ⟨?_, ?_⟩ <;> intro hc) | fail)
      refine okr_append slt22 (σ0 := σ) (hO.ext (by repeat (first | assumption | exact Ext.refl _ | refine ext_new' ?_ | refine Ext.setF ?_ (by first | assumption | (simp [new_nx', St.set, fresh_none]; done) | exact ext_fresh (by assumption))))) (by repeat (first | assumption | exact Ext.refl _ | refine ext_new' ?_ | refine Ext.setF ?_ (by first | assumption | (simp [new_nx', St.set, fresh_none]; done) | exact ext_fresh (by assumption)))) (ys := [iAV i]) (by simp [new_m, new_nx', iAV]) (.inr rfl) (by simp [iAV]) (by simp; omega) ?_
      intro v' τ' hO' hE' _ _
      (try ((first | with_reducible refine dops_go ?_ | with_reducible refine OKv_go ?_ | with_reducible refine OKr_go ?_); simp [-cellOK, a5, a15, a16, w1])); repeat' (first | refine awp_seq ?_ | refine awp_block ?_ | (refine awp_skip ?_; try simp) | (refine awp_exit ?_; try simp) | (refine awp_ret ?_; try simp) | (refine retP_same (by simp) ?_; simp) | (refine retP_no (by simp) (by simp [noIds]) (by repeat (first | assumption | exact Ext.refl _ | refine ext_new' ?_ | refine Ext.setF ?_ (by first | assumption | (simp [new_nx', St.set, fresh_none]; done) | exact ext_fresh (by assumption)))) ?_; simp [-cellOK, a5, a15, a16, w1, new_m, set_m, new_nx']) | ((first | refine awp_reg ?_ | refine awp_drawT (fun _ => false) mixed (by decide +kernel) ?_ | refine awp_drawT isCallO mixed (by decide +kernel) ?_); simp [-cellOK, a5, a15, a16, w1]) | (refine guarded_split ?_ ?_ <;> (intro hg; simp only [hg]; simp [-cellOK, a5, a15, a16, w1])) | (apply awp_cond_t; focus (simp [-cellOK, a5, a15, a16, w1]; done)) | (apply awp_cond_f; focus (simp [-cellOK, a5, a15, a16, w1]; done)) | (refine awp_cond ?_; simp [-cellOK, a5, a15, a16, w1]; refine ⟨?_, ?_⟩ <;> intro hc) | fail)
      refine hI1 (n.t.ports.length - (i + 1)) _ _ (by omega) ⟨hE', by simp [a15], i + 1, v', by simp, by omega, rfl, by simp, ?_⟩
      rw [List.range_succ, List.map_append, List.map_append]
      exact hO'
    · have : i = n.t.ports.length := by omega
      subst this
      (try ((first | with_reducible refine dops_go ?_ | with_reducible refine OKv_go ?_ | with_reducible refine OKr_go ?_); simp [-cellOK, a5, a15, a16])); repeat' (first | refine awp_seq ?_ | refine awp_block ?_ | (refine awp_skip ?_; try simp) | (refine awp_exit ?_; try simp) | (refine awp_ret ?_; try simp) | ((first | refine awp_reg ?_ | refine awp_drawT (fun _ => false) mixed (by decide +kernel) ?_ | refine awp_drawT isCallO mixed (by decide +kernel) ?_); simp [-cellOK, a5, a15, a16]) | (refine guarded_split ?_ ?_ <;> (intro hg; simp only [hg]; simp [-cellOK, a5, a15, a16])) | (apply awp_cond_t; focus (simp [-cellOK, a5, a15, a16]; done)) | (apply awp_cond_f; focus (simp [-cellOK, a5, a15, a16]; done)) | (refine awp_cond ?_; simp [-cellOK, a5, a15, a16]; refine ⟨?_, ?_⟩ <;> intro hc) | fail)
      exact retP_own (v := v) (.inr rfl) (by simp) hO hE
def breaksQ (q : Qy) (t u : Tk) : Bool :=
  if q.kind = 0 then !leavesB t q.b else if q.kind = 1 then decide (t.out = 4) else if q.kind = 2 then decide (t.out = 0) else if q.kind = 3 then comesB t q.b else if q.kind = 4 then leavesB t q.b && !comesB t q.w else if q.kind = 5 then !decide (t = u) else false
theorem breaks_calls (n m : Nw) (f g : Fl) (q : Qy) (t u : Tk) (ft fu : Bool) (ht : t.path.length < 2 ^ 60) (hu : u.path.length < 2 ^ 60) :
    PCalls Tryz.prog 67 [nwAV n f, nwAV m g, qyAV q, tkAV t ft, tkAV u fu] (.raw (.bool (breaksQ q t u))) := by
  have h0 := brk0_calls q t u ft fu
  have h1 := brk1_calls q t u ft fu
  have h2 := brk2_calls q t u ft fu
  have h3 := brk3_calls q t u ft fu ht
  have h4 := brk4_calls q t u ft fu ht
  have h5 := brk5_calls q t u ft fu ht hu
  have hb := broken_calls
  unfold brkAV at hb
  unfold breaksQ
  refine pbody Tryz.func67 rfl (N := 29) rfl rfl (by simp) (by simp [noIds]) fun σ => ?_
  by_cases k0 : q.kind < 0
  · rw [if_neg (by omega), if_neg (by omega), if_neg (by omega), if_neg (by omega), if_neg (by omega), if_neg (by omega)]
    have k0' : ¬ 0 ≤ q.kind := by omega
    (try ((first | with_reducible refine dops_go ?_ | with_reducible refine OKv_go ?_ | with_reducible refine OKr_go ?_); simp [-cellOK, nw_cells, qy_cells, tk_cells, k0'])); repeat' (first | refine awp_seq ?_ | refine awp_block ?_ | (refine awp_skip ?_; try simp) | (refine awp_exit ?_; try simp) | (refine awp_ret ?_; try simp) | (refine retP_same (by simp) ?_; simp) | (refine retP_no (by simp) (by simp [noIds]) (by repeat (first | assumption | exact Ext.refl _ | refine ext_new' ?_ | refine Ext.setF ?_ (by first | assumption | (simp [new_nx', St.set, fresh_none]; done) | exact ext_fresh (by assumption)))) ?_; simp [-cellOK, nw_cells, qy_cells, tk_cells, k0', new_m, set_m, new_nx']) | ((first | refine awp_reg ?_ | refine awp_drawT (fun _ => false) mixed (by decide +kernel) ?_ | refine awp_drawT isCallO mixed (by decide +kernel) ?_); simp [-cellOK, nw_cells, qy_cells, tk_cells, k0']) | (refine guarded_split ?_ ?_ <;> (intro hg; simp only [hg]; simp [-cellOK, nw_cells, qy_cells, tk_cells, k0'])) | (apply awp_cond_t; focus (simp [-cellOK, nw_cells, qy_cells, tk_cells, k0']; done)) | (apply awp_cond_f; focus (simp [-cellOK, nw_cells, qy_cells, tk_cells, k0']; done)) | (refine awp_cond ?_; simp [-cellOK, nw_cells, qy_cells, tk_cells, k0']; refine ⟨?_, ?_⟩ <;> intro hc) | fail)
  have k0' : 0 ≤ q.kind := by omega
  by_cases k6 : q.kind < 6
  · have : q.kind = 0 ∨ q.kind = 1 ∨ q.kind = 2 ∨ q.kind = 3 ∨ q.kind = 4 ∨ q.kind = 5 := by omega
    rcases this with k | k | k | k | k | k
    · have hf : AV.agg [.raw (.int .i64 0), .raw (.int .i64 q.a), .raw (.int .i64 q.b), .raw (.int .i64 q.w), .raw (.int .u32 q.r.lo), .raw (.int .u32 q.r.hi), .raw (.string q.other)] = qyAV q := by rw [← k]; rfl
      rw [if_pos k]
      (try ((first | with_reducible refine dops_go ?_ | with_reducible refine OKv_go ?_ | with_reducible refine OKr_go ?_); simp [-cellOK, nw_cells, nw_fold, qy_cells, hf, tk_cells, tk_fold, k])); repeat' (first | refine awp_seq ?_ | refine awp_block ?_ | (refine awp_skip ?_; try simp) | (refine awp_exit ?_; try simp) | (refine awp_ret ?_; try simp) | (refine retP_same (by simp) ?_; simp) | (refine retP_no (by simp) (by simp [noIds]) (by repeat (first | assumption | exact Ext.refl _ | refine ext_new' ?_ | refine Ext.setF ?_ (by first | assumption | (simp [new_nx', St.set, fresh_none]; done) | exact ext_fresh (by assumption)))) ?_; simp [-cellOK, nw_cells, nw_fold, qy_cells, hf, tk_cells, tk_fold, k, new_m, set_m, new_nx']) | ((first | refine awp_reg ?_ | refine awp_drawT (fun _ => false) mixed (by decide +kernel) ?_ | refine awp_drawT isCallO mixed (by decide +kernel) ?_ | refine PCalls.use (hb) ?_ | refine Or.inl ⟨_, Or.inl (hb), ?_⟩ | refine PCalls.use (h0) ?_ | refine Or.inl ⟨_, Or.inl (h0), ?_⟩); simp [-cellOK, nw_cells, nw_fold, qy_cells, hf, tk_cells, tk_fold, k]) | (refine guarded_split ?_ ?_ <;> (intro hg; simp only [hg]; simp [-cellOK, nw_cells, nw_fold, qy_cells, hf, tk_cells, tk_fold, k])) | (apply awp_cond_t; focus (simp [-cellOK, nw_cells, nw_fold, qy_cells, hf, tk_cells, tk_fold, k]; done)) | (apply awp_cond_f; focus (simp [-cellOK, nw_cells, nw_fold, qy_cells, hf, tk_cells, tk_fold, k]; done)) | (refine awp_cond ?_; simp [-cellOK, nw_cells, nw_fold, qy_cells, hf, tk_cells, tk_fold, k]; refine ⟨?_, ?_⟩ <;> intro hc) | fail)
    · have hf : AV.agg [.raw (.int .i64 1), .raw (.int .i64 q.a), .raw (.int .i64 q.b), .raw (.int .i64 q.w), .raw (.int .u32 q.r.lo), .raw (.int .u32 q.r.hi), .raw (.string q.other)] = qyAV q := by rw [← k]; rfl
      rw [if_neg (by omega), if_pos k]
      (try ((first | with_reducible refine dops_go ?_ | with_reducible refine OKv_go ?_ | with_reducible refine OKr_go ?_); simp [-cellOK, nw_cells, nw_fold, qy_cells, hf, tk_cells, tk_fold, k])); repeat' (first | refine awp_seq ?_ | refine awp_block ?_ | (refine awp_skip ?_; try simp) | (refine awp_exit ?_; try simp) | (refine awp_ret ?_; try simp) | (refine retP_same (by simp) ?_; simp) | (refine retP_no (by simp) (by simp [noIds]) (by repeat (first | assumption | exact Ext.refl _ | refine ext_new' ?_ | refine Ext.setF ?_ (by first | assumption | (simp [new_nx', St.set, fresh_none]; done) | exact ext_fresh (by assumption)))) ?_; simp [-cellOK, nw_cells, nw_fold, qy_cells, hf, tk_cells, tk_fold, k, new_m, set_m, new_nx']) | ((first | refine awp_reg ?_ | refine awp_drawT (fun _ => false) mixed (by decide +kernel) ?_ | refine awp_drawT isCallO mixed (by decide +kernel) ?_ | refine PCalls.use (hb) ?_ | refine Or.inl ⟨_, Or.inl (hb), ?_⟩ | refine PCalls.use (h1) ?_ | refine Or.inl ⟨_, Or.inl (h1), ?_⟩); simp [-cellOK, nw_cells, nw_fold, qy_cells, hf, tk_cells, tk_fold, k]) | (refine guarded_split ?_ ?_ <;> (intro hg; simp only [hg]; simp [-cellOK, nw_cells, nw_fold, qy_cells, hf, tk_cells, tk_fold, k])) | (apply awp_cond_t; focus (simp [-cellOK, nw_cells, nw_fold, qy_cells, hf, tk_cells, tk_fold, k]; done)) | (apply awp_cond_f; focus (simp [-cellOK, nw_cells, nw_fold, qy_cells, hf, tk_cells, tk_fold, k]; done)) | (refine awp_cond ?_; simp [-cellOK, nw_cells, nw_fold, qy_cells, hf, tk_cells, tk_fold, k]; refine ⟨?_, ?_⟩ <;> intro hc) | fail)
    · have hf : AV.agg [.raw (.int .i64 2), .raw (.int .i64 q.a), .raw (.int .i64 q.b), .raw (.int .i64 q.w), .raw (.int .u32 q.r.lo), .raw (.int .u32 q.r.hi), .raw (.string q.other)] = qyAV q := by rw [← k]; rfl
      rw [if_neg (by omega), if_neg (by omega), if_pos k]
      (try ((first | with_reducible refine dops_go ?_ | with_reducible refine OKv_go ?_ | with_reducible refine OKr_go ?_); simp [-cellOK, nw_cells, nw_fold, qy_cells, hf, tk_cells, tk_fold, k])); repeat' (first | refine awp_seq ?_ | refine awp_block ?_ | (refine awp_skip ?_; try simp) | (refine awp_exit ?_; try simp) | (refine awp_ret ?_; try simp) | (refine retP_same (by simp) ?_; simp) | (refine retP_no (by simp) (by simp [noIds]) (by repeat (first | assumption | exact Ext.refl _ | refine ext_new' ?_ | refine Ext.setF ?_ (by first | assumption | (simp [new_nx', St.set, fresh_none]; done) | exact ext_fresh (by assumption)))) ?_; simp [-cellOK, nw_cells, nw_fold, qy_cells, hf, tk_cells, tk_fold, k, new_m, set_m, new_nx']) | ((first | refine awp_reg ?_ | refine awp_drawT (fun _ => false) mixed (by decide +kernel) ?_ | refine awp_drawT isCallO mixed (by decide +kernel) ?_ | refine PCalls.use (hb) ?_ | refine Or.inl ⟨_, Or.inl (hb), ?_⟩ | refine PCalls.use (h2) ?_ | refine Or.inl ⟨_, Or.inl (h2), ?_⟩); simp [-cellOK, nw_cells, nw_fold, qy_cells, hf, tk_cells, tk_fold, k]) | (refine guarded_split ?_ ?_ <;> (intro hg; simp only [hg]; simp [-cellOK, nw_cells, nw_fold, qy_cells, hf, tk_cells, tk_fold, k])) | (apply awp_cond_t; focus (simp [-cellOK, nw_cells, nw_fold, qy_cells, hf, tk_cells, tk_fold, k]; done)) | (apply awp_cond_f; focus (simp [-cellOK, nw_cells, nw_fold, qy_cells, hf, tk_cells, tk_fold, k]; done)) | (refine awp_cond ?_; simp [-cellOK, nw_cells, nw_fold, qy_cells, hf, tk_cells, tk_fold, k]; refine ⟨?_, ?_⟩ <;> intro hc) | fail)
    · have hf : AV.agg [.raw (.int .i64 3), .raw (.int .i64 q.a), .raw (.int .i64 q.b), .raw (.int .i64 q.w), .raw (.int .u32 q.r.lo), .raw (.int .u32 q.r.hi), .raw (.string q.other)] = qyAV q := by rw [← k]; rfl
      rw [if_neg (by omega), if_neg (by omega), if_neg (by omega), if_pos k]
      (try ((first | with_reducible refine dops_go ?_ | with_reducible refine OKv_go ?_ | with_reducible refine OKr_go ?_); simp [-cellOK, nw_cells, nw_fold, qy_cells, hf, tk_cells, tk_fold, k])); repeat' (first | refine awp_seq ?_ | refine awp_block ?_ | (refine awp_skip ?_; try simp) | (refine awp_exit ?_; try simp) | (refine awp_ret ?_; try simp) | (refine retP_same (by simp) ?_; simp) | (refine retP_no (by simp) (by simp [noIds]) (by repeat (first | assumption | exact Ext.refl _ | refine ext_new' ?_ | refine Ext.setF ?_ (by first | assumption | (simp [new_nx', St.set, fresh_none]; done) | exact ext_fresh (by assumption)))) ?_; simp [-cellOK, nw_cells, nw_fold, qy_cells, hf, tk_cells, tk_fold, k, new_m, set_m, new_nx']) | ((first | refine awp_reg ?_ | refine awp_drawT (fun _ => false) mixed (by decide +kernel) ?_ | refine awp_drawT isCallO mixed (by decide +kernel) ?_ | refine PCalls.use (hb) ?_ | refine Or.inl ⟨_, Or.inl (hb), ?_⟩ | refine PCalls.use (h3) ?_ | refine Or.inl ⟨_, Or.inl (h3), ?_⟩); simp [-cellOK, nw_cells, nw_fold, qy_cells, hf, tk_cells, tk_fold, k]) | (refine guarded_split ?_ ?_ <;> (intro hg; simp only [hg]; simp [-cellOK, nw_cells, nw_fold, qy_cells, hf, tk_cells, tk_fold, k])) | (apply awp_cond_t; focus (simp [-cellOK, nw_cells, nw_fold, qy_cells, hf, tk_cells, tk_fold, k]; done)) | (apply awp_cond_f; focus (simp [-cellOK, nw_cells, nw_fold, qy_cells, hf, tk_cells, tk_fold, k]; done)) | (refine awp_cond ?_; simp [-cellOK, nw_cells, nw_fold, qy_cells, hf, tk_cells, tk_fold, k]; refine ⟨?_, ?_⟩ <;> intro hc) | fail)
    · have hf : AV.agg [.raw (.int .i64 4), .raw (.int .i64 q.a), .raw (.int .i64 q.b), .raw (.int .i64 q.w), .raw (.int .u32 q.r.lo), .raw (.int .u32 q.r.hi), .raw (.string q.other)] = qyAV q := by rw [← k]; rfl
      rw [if_neg (by omega), if_neg (by omega), if_neg (by omega), if_neg (by omega), if_pos k]
      (try ((first | with_reducible refine dops_go ?_ | with_reducible refine OKv_go ?_ | with_reducible refine OKr_go ?_); simp [-cellOK, nw_cells, nw_fold, qy_cells, hf, tk_cells, tk_fold, k])); repeat' (first | refine awp_seq ?_ | refine awp_block ?_ | (refine awp_skip ?_; try simp) | (refine awp_exit ?_; try simp) | (refine awp_ret ?_; try simp) | (refine retP_same (by simp) ?_; simp) | (refine retP_no (by simp) (by simp [noIds]) (by repeat (first | assumption | exact Ext.refl _ | refine ext_new' ?_ | refine Ext.setF ?_ (by first | assumption | (simp [new_nx', St.set, fresh_none]; done) | exact ext_fresh (by assumption)))) ?_; simp [-cellOK, nw_cells, nw_fold, qy_cells, hf, tk_cells, tk_fold, k, new_m, set_m, new_nx']) | ((first | refine awp_reg ?_ | refine awp_drawT (fun _ => false) mixed (by decide +kernel) ?_ | refine awp_drawT isCallO mixed (by decide +kernel) ?_ | refine PCalls.use (hb) ?_ | refine Or.inl ⟨_, Or.inl (hb), ?_⟩ | refine PCalls.use (h4) ?_ | refine Or.inl ⟨_, Or.inl (h4), ?_⟩); simp [-cellOK, nw_cells, nw_fold, qy_cells, hf, tk_cells, tk_fold, k]) | (refine guarded_split ?_ ?_ <;> (intro hg; simp only [hg]; simp [-cellOK, nw_cells, nw_fold, qy_cells, hf, tk_cells, tk_fold, k])) | (apply awp_cond_t; focus (simp [-cellOK, nw_cells, nw_fold, qy_cells, hf, tk_cells, tk_fold, k]; done)) | (apply awp_cond_f; focus (simp [-cellOK, nw_cells, nw_fold, qy_cells, hf, tk_cells, tk_fold, k]; done)) | (refine awp_cond ?_; simp [-cellOK, nw_cells, nw_fold, qy_cells, hf, tk_cells, tk_fold, k]; refine ⟨?_, ?_⟩ <;> intro hc) | fail)
    · have hf : AV.agg [.raw (.int .i64 5), .raw (.int .i64 q.a), .raw (.int .i64 q.b), .raw (.int .i64 q.w), .raw (.int .u32 q.r.lo), .raw (.int .u32 q.r.hi), .raw (.string q.other)] = qyAV q := by rw [← k]; rfl
      rw [if_neg (by omega), if_neg (by omega), if_neg (by omega), if_neg (by omega), if_neg (by omega), if_pos k]
      (try ((first | with_reducible refine dops_go ?_ | with_reducible refine OKv_go ?_ | with_reducible refine OKr_go ?_); simp [-cellOK, nw_cells, nw_fold, qy_cells, hf, tk_cells, tk_fold, k])); repeat' (first | refine awp_seq ?_ | refine awp_block ?_ | (refine awp_skip ?_; try simp) | (refine awp_exit ?_; try simp) | (refine awp_ret ?_; try simp) | (refine retP_same (by simp) ?_; simp) | (refine retP_no (by simp) (by simp [noIds]) (by repeat (first | assumption | exact Ext.refl _ | refine ext_new' ?_ | refine Ext.setF ?_ (by first | assumption | (simp [new_nx', St.set, fresh_none]; done) | exact ext_fresh (by assumption)))) ?_; simp [-cellOK, nw_cells, nw_fold, qy_cells, hf, tk_cells, tk_fold, k, new_m, set_m, new_nx']) | ((first | refine awp_reg ?_ | refine awp_drawT (fun _ => false) mixed (by decide +kernel) ?_ | refine awp_drawT isCallO mixed (by decide +kernel) ?_ | refine PCalls.use (hb) ?_ | refine Or.inl ⟨_, Or.inl (hb), ?_⟩ | refine PCalls.use (h5) ?_ | refine Or.inl ⟨_, Or.inl (h5), ?_⟩); simp [-cellOK, nw_cells, nw_fold, qy_cells, hf, tk_cells, tk_fold, k]) | (refine guarded_split ?_ ?_ <;> (intro hg; simp only [hg]; simp [-cellOK, nw_cells, nw_fold, qy_cells, hf, tk_cells, tk_fold, k])) | (apply awp_cond_t; focus (simp [-cellOK, nw_cells, nw_fold, qy_cells, hf, tk_cells, tk_fold, k]; done)) | (apply awp_cond_f; focus (simp [-cellOK, nw_cells, nw_fold, qy_cells, hf, tk_cells, tk_fold, k]; done)) | (refine awp_cond ?_; simp [-cellOK, nw_cells, nw_fold, qy_cells, hf, tk_cells, tk_fold, k]; refine ⟨?_, ?_⟩ <;> intro hc) | fail)
  · rw [if_neg (by omega), if_neg (by omega), if_neg (by omega), if_neg (by omega), if_neg (by omega), if_neg (by omega)]
    (try ((first | with_reducible refine dops_go ?_ | with_reducible refine OKv_go ?_ | with_reducible refine OKr_go ?_); simp [-cellOK, nw_cells, qy_cells, tk_cells, k0', k6])); repeat' (first | refine awp_seq ?_ | refine awp_block ?_ | (refine awp_skip ?_; try simp) | (refine awp_exit ?_; try simp) | (refine awp_ret ?_; try simp) | (refine retP_same (by simp) ?_; simp) | (refine retP_no (by simp) (by simp [noIds]) (by repeat (first | assumption | exact Ext.refl _ | refine ext_new' ?_ | refine Ext.setF ?_ (by first | assumption | (simp [new_nx', St.set, fresh_none]; done) | exact ext_fresh (by assumption)))) ?_; simp [-cellOK, nw_cells, qy_cells, tk_cells, k0', k6, new_m, set_m, new_nx']) | ((first | refine awp_reg ?_ | refine awp_drawT (fun _ => false) mixed (by decide +kernel) ?_ | refine awp_drawT isCallO mixed (by decide +kernel) ?_); simp [-cellOK, nw_cells, qy_cells, tk_cells, k0', k6]) | (refine guarded_split ?_ ?_ <;> (intro hg; simp only [hg]; simp [-cellOK, nw_cells, qy_cells, tk_cells, k0', k6])) | (apply awp_cond_t; focus (simp [-cellOK, nw_cells, qy_cells, tk_cells, k0', k6]; done)) | (apply awp_cond_f; focus (simp [-cellOK, nw_cells, qy_cells, tk_cells, k0', k6]; done)) | (refine awp_cond ?_; simp [-cellOK, nw_cells, qy_cells, tk_cells, k0', k6]; refine ⟨?_, ?_⟩ <;> intro hc) | fail)
end Go.Proofs.YtanimmdlgmkmkaaGreat.Av


/- Queries: query.Run, query.Same. -/
namespace Go.Proofs.YtanimmdlgmkmkaaGreat.Av
open Go
set_option linter.unusedSimpArgs false
set_option linter.unusedVariables false
set_option maxRecDepth 100000
set_option maxHeartbeats 4000000
set_option pp.maxSteps 600

structure Vd where
  holds : Bool
  src : Int
  addr : Int
  tr : Tk
deriving DecidableEq
def vdAV (v : Vd) (f : Bool) : AV := .agg [.raw (.bool v.holds), .raw (.int .i64 v.src), .raw (.int .u32 v.addr), intsAV v.tr.path f, .raw (.int .i64 v.tr.out), .raw (.int .i64 v.tr.last.dev), .raw (.int .i64 v.tr.last.port)]
theorem vd_cells (v : Vd) (f : Bool) : (vdAV v f).cells = [.raw (.bool v.holds), .raw (.int .i64 v.src), .raw (.int .u32 v.addr), intsAV v.tr.path f, .raw (.int .i64 v.tr.out), .raw (.int .i64 v.tr.last.dev), .raw (.int .i64 v.tr.last.port)] := rfl
theorem vd_fold (h : Bool) (s a : Int) (t : Tk) (f : Bool) : AV.agg [.raw (.bool h), .raw (.int .i64 s), .raw (.int .u32 a), intsAV t.path f, .raw (.int .i64 t.out), .raw (.int .i64 t.last.dev), .raw (.int .i64 t.last.port)] = vdAV ⟨h, s, a, t⟩ f := rfl
@[simp] theorem vd_ids (K : Id → Prop) (v : Vd) (b : Bool) : (vdAV v b).ids K := by simp [vdAV]
def noTk : Tk := ⟨[], 0, ⟨0, 0⟩⟩
def seek (n m : Nw) (q : Qy) (d : Int) : List Rg → Option Vd
  | [] => none
  | r :: rs => if breaksQ q (traceR n d r.lo).1 (traceR m d r.lo).1 = true then some ⟨false, d, r.lo, (traceR n d r.lo).1⟩ else seek n m q d rs
def seeks (n m : Nw) (q : Qy) (P : List Rg) : List Int → Option Vd
  | [] => none
  | d :: ds => match seek n m q d P with
    | some v => some v
    | none => seeks n m q P ds
def runQ (n m : Nw) (q : Qy) : Vd × Int :=
  if rightQ n q = false ∨ (q.kind = 5 ∧ n.t ≠ m.t) then (⟨false, 0, 0, noTk⟩, 121) else
    match seeks n (if q.kind = 5 then m else n) q (cutP [n, if q.kind = 5 then m else n] q.r) (sourcesQ n q) with
    | some v => (v, 0)
    | none => (⟨true, 0, 0, noTk⟩, 0)
theorem weaker_vd (b : Bool) (e : Int) : Weaker (.tup [.agg [.raw (.bool b), .raw (.int .i64 0), .raw (.int .u32 0), .sl 0 [] true, .raw (.int .i64 0), .raw (.int .i64 0), .raw (.int .i64 0)], .raw (.int .i64 e)]) (.tup [vdAV ⟨b, 0, 0, noTk⟩ false, .raw (.int .i64 e)]) := by
  intro S v h
  simp only [vdAV, noTk, intsAV, List.map_nil, VRel, LRel] at h ⊢
  obtain ⟨l, rfl, u, us, h1, ⟨l2, rfl, h2⟩, h3⟩ := h
  refine ⟨l, rfl, _, us, h1, ⟨l2, rfl, ?_⟩, h3⟩
  obtain ⟨x1, y1, e1, p1, x2, y2, e2, p2, x3, y3, e3, p3, x4, y4, e4, ⟨base, cap, e, q1, q2, q3⟩, p5⟩ := h2
  exact ⟨x1, y1, e1, p1, x2, y2, e2, p2, x3, y3, e3, p3, x4, y4, e4, ⟨base, cap, e, q1, by simp, by simp⟩, p5⟩
/-- An empty verdict, as it is made. -/
def vd0AV : AV := .agg [.raw (.bool false), .raw (.int .i64 0), .raw (.int .u32 0), .sl 0 [] true, .raw (.int .i64 0), .raw (.int .i64 0), .raw (.int .i64 0)]
theorem vd0_put (a b c d e f g : AV) : setPart vd0AV 0 [a, b, c, d, e, f, g] = .agg [a, b, c, d, e, f, g] := rfl
theorem vd0_fold : AV.agg [.raw (.bool false), .raw (.int .i64 0), .raw (.int .u32 0), .sl 0 [] true, .raw (.int .i64 0), .raw (.int .i64 0), .raw (.int .i64 0)] = vd0AV := rfl
theorem vd0_cells : vd0AV.cells = [.raw (.bool false), .raw (.int .i64 0), .raw (.int .u32 0), .sl 0 [] true, .raw (.int .i64 0), .raw (.int .i64 0), .raw (.int .i64 0)] := rfl
theorem vd0_putV (v : Vd) (f : Bool) : setPart vd0AV 0 (vdAV v f).cells = vdAV v f := rfl
theorem held_len (L : List Rg) : (heldL L).length ≤ 500 := by
  have : ∀ (L : List Rg) (s : Option (List Rg)), (s.getD []).length ≤ 500 → ((L.foldl stepL s).getD []).length ≤ 500 := by
    intro L
    induction L with
    | nil => intro s h; exact h
    | cons r L ih =>
      intro s h
      rw [List.foldl_cons]
      refine ih _ ?_
      unfold stepL
      split
      · simp
      · split
        · simp
        · simp only [Option.getD_some, List.length_cons]; omega
  exact this L (some []) (by simp)
theorem cutsL_len (L : List Rg) : (cutsL L).length ≤ 1 + 2 * L.length := by
  have hcc := cutsL_cuts L
  have := nodup_le (m := 0 :: endsL L) (hcc.srt.imp fun h => by omega) fun x hx => by
    rw [List.mem_cons]; simp only [endsL, List.mem_flatMap]; exact (hcc.mem x).1 hx
  have := endsL_len L
  simp only [List.length_cons] at *
  omega
theorem cutP_len (l : List Nw) (r : Rg) : (cutP l r).length ≤ 1001 := by
  unfold cutP
  split
  · simp
  · unfold cutC
    have h1 := List.length_filterMap_le (cutOne r) (atomsC (cutsL (heldL (rgsOf l))))
    rw [atomsC_len] at h1
    have h2 := cutsL_len (heldL (rgsOf l))
    have h3 := held_len (rgsOf l)
    omega
theorem run_calls (n m : Nw) (f g : Fl) (q : Qy) (hn : NwOK n) (hm : NwOK m) (hq : RgOK q.r) :
    PCalls Tryz.prog 17 [nwAV n f, nwAV m g, qyAV q] (.tup [vdAV (runQ n m q).1 false, .raw (.int .i64 (runQ n m q).2)]) := by
  have hr := rightQ_calls n f q
  have hs := topoSame_calls n.t m.t f g (by have := hn.ports; omega) (by have := hn.links; omega) (by have := hm.ports; omega) (by have := hm.links; omega)
  have hso := sources_calls n f q hn.ports
  refine pbody Tryz.func17 rfl (N := 93) rfl rfl (by simp) (by simp [noIds]) fun σ => ?_
  repeat (refine awp_seq ?_)
  refine awp_reg ?_
  simp [-cellOK, nw_cells, qy_cells]
  refine awp_freeze ⟨3, σ.nx 3, 3⟩ ?_
  refine awp_freeze ⟨5, σ.nx 5, 7⟩ ?_
  generalize hτ : St.del _ _ = τ
  generalize hA : (fun t => giveUp _ _ _) = A
  have a3 : A 3 = .pp (nwAV n f).cells 0 := by rw [← hA, ← hτ]; simp [giveUp, St.new, St.del, nw_cells]
  have a4 : A 4 = .rp ⟨4, σ.nx 4, 3⟩ 0 0 := by rw [← hA, ← hτ]; simp [giveUp, St.new, St.del, nw_cells, qy_cells]
  have a5 : A 5 = .pp (qyAV q).cells 0 := by rw [← hA, ← hτ]; simp [giveUp, St.new, St.del, nw_cells, qy_cells]
  have a6 : A 6 = .rp ⟨6, σ.nx 6, 7⟩ 0 0 := by rw [← hA, ← hτ]; simp [giveUp, St.new, St.del, nw_cells, qy_cells]
  have m4 : τ.m ⟨4, σ.nx 4, 3⟩ = some (.buf [nwAV m g]) := by rw [← hτ]; simp [St.new, St.del]
  have m6 : τ.m ⟨6, σ.nx 6, 7⟩ = some (.buf [.agg [.raw (.bool false), .raw (.int .i64 0), .raw (.int .u32 0), .sl 0 [] true, .raw (.int .i64 0), .raw (.int .i64 0), .raw (.int .i64 0)]]) := by rw [← hτ]; simp [St.new, St.del]
  have hE : Ext σ τ := by
    rw [← hτ]
    refine ⟨fun i o h => ?_, fun s => ?_⟩
    · have q1 : i ≠ ⟨3, σ.nx 3, 3⟩ := fun e => by rw [e, fresh_none] at h; cases h
      have q2 : i ≠ ⟨4, σ.nx 4, 3⟩ := fun e => by rw [e, fresh_none] at h; cases h
      have q3 : i ≠ ⟨5, σ.nx 5, 7⟩ := fun e => by rw [e, fresh_none] at h; cases h
      have q4 : i ≠ ⟨6, σ.nx 6, 7⟩ := fun e => by rw [e, fresh_none] at h; cases h
      simp [St.del, St.new, q1, q2, q3, q4, h]
    · simp only [St.del, St.new]
      repeat' split
      all_goals omega
  clear hτ hA
  have f4 : σ.m ⟨4, σ.nx 4, 3⟩ = none := fresh_none _ _ _
  have f6 : σ.m ⟨6, σ.nx 6, 7⟩ = none := fresh_none _ _ _
  obtain ⟨i4, hi4⟩ : ∃ i, (⟨4, σ.nx 4, 3⟩ : Id) = i := ⟨_, rfl⟩
  obtain ⟨i6, hi6⟩ : ∃ i, (⟨6, σ.nx 6, 7⟩ : Id) = i := ⟨_, rfl⟩
  have s4 : i4.slot = 4 := by rw [← hi4]
  have s6 : i6.slot = 6 := by rw [← hi6]
  rw [hi4] at a4 m4 f4
  rw [hi6] at a6 m6 f6
  have d46 : i4 ≠ i6 := fun e => by rw [e, s6] at s4; cases s4
  have htf : ∀ (N : Nw) (F : Fl), AV.agg [intsAV N.t.ports F.p, linksAV N.t.links F.l] = tpAV N.t F := fun _ _ => rfl
  have bad : ∀ {B : Env} {ρ : St}, Ext σ ρ → aresult Tryz.prog ρ.m B Tryz.f17.results = some (.tup [.agg [.raw (.bool false), .raw (.int .i64 0), .raw (.int .u32 0), .sl 0 [] true, .raw (.int .i64 0), .raw (.int .i64 0), .raw (.int .i64 0)], .raw (.int .i64 121)]) → RetP Tryz.prog Tryz.f17 σ (.tup [vdAV ⟨false, 0, 0, noTk⟩ false, .raw (.int .i64 121)]) .ret B ρ := fun hE h =>
    retP_weak (.inr rfl) hE h (by simpa [giveUps, giveUp] using weaker_vd false 121)
  unfold runQ
  cases hrb : rightQ n q with
  | false =>
    rw [hrb] at hr
    rw [if_pos (.inl rfl)]
    (try ((first | with_reducible refine dops_go ?_ | with_reducible refine OKv_go ?_ | with_reducible refine OKr_go ?_); simp [-cellOK, a3, a4, a5, a6, nw_cells, nw_fold, qy_cells, qy_fold, m6])); repeat' (first | refine awp_seq ?_ | refine awp_block ?_ | (refine awp_skip ?_; try simp) | (refine awp_exit ?_; try simp) | (refine awp_ret ?_; try simp) | ((first | refine awp_reg ?_ | refine awp_drawT (fun _ => false) mixed (by decide +kernel) ?_ | refine awp_drawT isCallO mixed (by decide +kernel) ?_ | refine PCalls.use (hr) ?_ | refine Or.inl ⟨_, Or.inl (hr), ?_⟩); simp [-cellOK, a3, a4, a5, a6, nw_cells, nw_fold, qy_cells, qy_fold, m6]) | (refine guarded_split ?_ ?_ <;> (intro hg; simp only [hg]; simp [-cellOK, a3, a4, a5, a6, nw_cells, nw_fold, qy_cells, qy_fold, m6])) | (apply awp_cond_t; focus (simp [-cellOK, a3, a4, a5, a6, nw_cells, nw_fold, qy_cells, qy_fold, m6]; done)) | (apply awp_cond_f; focus (simp [-cellOK, a3, a4, a5, a6, nw_cells, nw_fold, qy_cells, qy_fold, m6]; done)) | (refine awp_cond ?_; simp [-cellOK, a3, a4, a5, a6, nw_cells, nw_fold, qy_cells, qy_fold, m6]; refine ⟨?_, ?_⟩ <;> intro hc) | fail)
    exact bad (by repeat (first | assumption | exact Ext.refl _ | refine ext_new' ?_ | refine Ext.setF ?_ (by first | assumption | (simp [new_nx', St.set, fresh_none]; done) | exact ext_fresh (by assumption)))) (by simp [set_m, m6, a6])
  | true =>
  rw [hrb] at hr
  obtain ⟨M, hM⟩ : ∃ M, (if q.kind = 5 then m else n) = M := ⟨_, rfl⟩
  obtain ⟨G, hG⟩ : ∃ G, (if q.kind = 5 then g else f) = G := ⟨_, rfl⟩
  have hMok : NwOK M := by rw [← hM]; split <;> assumption
  by_cases hbad : q.kind = 5 ∧ n.t ≠ m.t
  · rw [if_pos (.inr hbad)]
    obtain ⟨k5, hne⟩ := hbad
    have k5 := eq_true k5
    rw [decide_eq_false hne] at hs
    (try ((first | with_reducible refine dops_go ?_ | with_reducible refine OKv_go ?_ | with_reducible refine OKr_go ?_); simp [-cellOK, a3, a4, a5, a6, nw_cells, nw_fold, qy_cells, qy_fold, m4, m6, k5, htf])); repeat' (first | refine awp_seq ?_ | refine awp_block ?_ | (refine awp_skip ?_; try simp) | (refine awp_exit ?_; try simp) | (refine awp_ret ?_; try simp) | ((first | refine awp_reg ?_ | refine awp_drawT (fun _ => false) mixed (by decide +kernel) ?_ | refine awp_drawT isCallO mixed (by decide +kernel) ?_ | refine PCalls.use (hr) ?_ | refine Or.inl ⟨_, Or.inl (hr), ?_⟩ | refine PCalls.use (hs) ?_ | refine Or.inl ⟨_, Or.inl (hs), ?_⟩); simp [-cellOK, a3, a4, a5, a6, nw_cells, nw_fold, qy_cells, qy_fold, m4, m6, k5, htf]) | (refine guarded_split ?_ ?_ <;> (intro hg; simp only [hg]; simp [-cellOK, a3, a4, a5, a6, nw_cells, nw_fold, qy_cells, qy_fold, m4, m6, k5, htf])) | (apply awp_cond_t; focus (simp [-cellOK, a3, a4, a5, a6, nw_cells, nw_fold, qy_cells, qy_fold, m4, m6, k5, htf]; done)) | (apply awp_cond_f; focus (simp [-cellOK, a3, a4, a5, a6, nw_cells, nw_fold, qy_cells, qy_fold, m4, m6, k5, htf]; done)) | (refine awp_cond ?_; simp [-cellOK, a3, a4, a5, a6, nw_cells, nw_fold, qy_cells, qy_fold, m4, m6, k5, htf]; refine ⟨?_, ?_⟩ <;> intro hc) | fail)
    exact bad (by repeat (first | assumption | exact Ext.refl _ | refine ext_new' ?_ | refine Ext.setF ?_ (by first | assumption | (simp [new_nx', St.set, fresh_none]; done) | exact ext_fresh (by assumption)))) (by simp [set_m, m6, a6])
  rw [if_neg (by simp [hbad]), hM]
  have hcut := cut_calls [(n, f), (M, G)] false q.r hq (by simp [hn, hMok]) (by simp)
  simp only [List.map_cons, List.map_nil] at hcut
  generalize (if q.r.hi < q.r.lo then (31 : Int) else 0) = ce at hcut
  have hPl := cutP_len [n, M] q.r
  have hSl : (sourcesQ n q).length < 2 ^ 45 := by
    have := hn.ports
    unfold sourcesQ
    split
    · simp
    · simp; omega
  generalize cutP [n, M] q.r = P at hcut hPl ⊢
  generalize sourcesQ n q = Sq at hso hSl ⊢
  have n4 : ∀ s k z, ¬ s = 4 → (i4 = (⟨s, k, z⟩ : Id)) = False := fun s k z h => eq_false fun e => h (by rw [e] at s4; exact s4)
  have n6 : ∀ s k z, ¬ s = 6 → (i6 = (⟨s, k, z⟩ : Id)) = False := fun s k z h => eq_false fun e => h (by rw [e] at s6; exact s6)
  have d64 := d46.symm
  have ne4 : ∀ k z, i4 ≠ (⟨43, k, z⟩ : Id) := fun k z e => by rw [e] at s4; cases s4
  have ne6 : ∀ k z, i6 ≠ (⟨43, k, z⟩ : Id) := fun k z e => by rw [e] at s6; cases s6
  have hrgf : AV.agg [.raw (.int .u32 q.r.lo), .raw (.int .u32 q.r.hi)] = rgAV q.r := rfl
  by_cases k5 : q.kind = 5
  focus
    have hsame : n.t = m.t := Classical.byContradiction fun h => hbad ⟨k5, h⟩
    rw [decide_eq_true hsame] at hs
    have e1 : m = M := by rw [← hM, if_pos k5]
    have e2 : g = G := by rw [← hG, if_pos k5]
    rw [e1, e2] at m4 hs
    have k5 := eq_true k5
    (try ((first | with_reducible refine dops_go ?_ | with_reducible refine OKv_go ?_ | with_reducible refine OKr_go ?_); simp [-cellOK, a3, a4, a5, a6, nw_cells, nw_fold, qy_cells, qy_fold, m4, m6, k5, htf])); repeat' (first | refine awp_seq ?_ | refine awp_block ?_ | (refine awp_skip ?_; try simp) | (refine awp_exit ?_; try simp) | (refine awp_ret ?_; try simp) | (refine retP_same (by simp) ?_; simp) | (refine retP_no (by simp) (by simp [noIds]) (by repeat (first | assumption | exact Ext.refl _ | refine ext_new' ?_ | refine Ext.setF ?_ (by first | assumption | (simp [new_nx', St.set, fresh_none]; done) | exact ext_fresh (by assumption)))) ?_; simp [-cellOK, a3, a4, a5, a6, nw_cells, nw_fold, qy_cells, qy_fold, m4, m6, k5, htf, new_m, set_m, new_nx']) | ((first | refine awp_reg ?_ | refine awp_drawT (fun _ => false) mixed (by decide +kernel) ?_ | refine awp_drawT isCallO mixed (by decide +kernel) ?_ | refine PCalls.use (hr) ?_ | refine Or.inl ⟨_, Or.inl (hr), ?_⟩ | refine PCalls.use (hs) ?_ | refine Or.inl ⟨_, Or.inl (hs), ?_⟩); simp [-cellOK, a3, a4, a5, a6, nw_cells, nw_fold, qy_cells, qy_fold, m4, m6, k5, htf]) | (refine guarded_split ?_ ?_ <;> (intro hg; simp only [hg]; simp [-cellOK, a3, a4, a5, a6, nw_cells, nw_fold, qy_cells, qy_fold, m4, m6, k5, htf])) | (apply awp_cond_t; focus (simp [-cellOK, a3, a4, a5, a6, nw_cells, nw_fold, qy_cells, qy_fold, m4, m6, k5, htf]; done)) | (apply awp_cond_f; focus (simp [-cellOK, a3, a4, a5, a6, nw_cells, nw_fold, qy_cells, qy_fold, m4, m6, k5, htf]; done)) | (refine awp_cond ?_; simp [-cellOK, a3, a4, a5, a6, nw_cells, nw_fold, qy_cells, qy_fold, m4, m6, k5, htf]; refine ⟨?_, ?_⟩ <;> intro hc) | fail)
    refine hcut.useFz (σ0 := σ) ⟨43, τ.nx 43, 3⟩ (ext_fresh hE) (by repeat (first | assumption | exact Ext.refl _ | refine ext_new' ?_ | refine Ext.setF ?_ (by first | assumption | (simp [new_nx', St.set, fresh_none]; done) | exact ext_fresh (by assumption)))) (by simp [giveUp, new_m, netsAV, hrgf]; rfl) ?_
    intro τ2 hE2 hk2 _
    have g4 : τ2.m i4 = some (.buf [nwAV M G]) := hk2 i4 _ (ne4 _ _) (new_up _ _ m4)
    have g6 := hk2 i6 _ (ne6 _ _) (new_up _ _ m6)
  rotate_left
  focus
    have e1 : M = n := by rw [← hM, if_neg k5]
    have e2 : G = f := by rw [← hG, if_neg k5]
    have hnp : setPart (nwAV m g) 0 [intsAV n.t.ports f.p, linksAV n.t.links f.l, rulesAV n.rules f.r] = nwAV n f := rfl
    (try ((first | with_reducible refine dops_go ?_ | with_reducible refine OKv_go ?_ | with_reducible refine OKr_go ?_); simp [-cellOK, a3, a4, a5, a6, nw_cells, nw_fold, qy_cells, qy_fold, m4, m6, k5, htf, hnp])); repeat' (first | refine awp_seq ?_ | refine awp_block ?_ | (refine awp_skip ?_; try simp) | (refine awp_exit ?_; try simp) | (refine awp_ret ?_; try simp) | (refine retP_same (by simp) ?_; simp) | (refine retP_no (by simp) (by simp [noIds]) (by repeat (first | assumption | exact Ext.refl _ | refine ext_new' ?_ | refine Ext.setF ?_ (by first | assumption | (simp [new_nx', St.set, fresh_none]; done) | exact ext_fresh (by assumption)))) ?_; simp [-cellOK, a3, a4, a5, a6, nw_cells, nw_fold, qy_cells, qy_fold, m4, m6, k5, htf, hnp, new_m, set_m, new_nx']) | ((first | refine awp_reg ?_ | refine awp_drawT (fun _ => false) mixed (by decide +kernel) ?_ | refine awp_drawT isCallO mixed (by decide +kernel) ?_ | refine PCalls.use (hr) ?_ | refine Or.inl ⟨_, Or.inl (hr), ?_⟩ | refine PCalls.use (hs) ?_ | refine Or.inl ⟨_, Or.inl (hs), ?_⟩); simp [-cellOK, a3, a4, a5, a6, nw_cells, nw_fold, qy_cells, qy_fold, m4, m6, k5, htf, hnp]) | (refine guarded_split ?_ ?_ <;> (intro hg; simp only [hg]; simp [-cellOK, a3, a4, a5, a6, nw_cells, nw_fold, qy_cells, qy_fold, m4, m6, k5, htf, hnp])) | (apply awp_cond_t; focus (simp [-cellOK, a3, a4, a5, a6, nw_cells, nw_fold, qy_cells, qy_fold, m4, m6, k5, htf, hnp]; done)) | (apply awp_cond_f; focus (simp [-cellOK, a3, a4, a5, a6, nw_cells, nw_fold, qy_cells, qy_fold, m4, m6, k5, htf, hnp]; done)) | (refine awp_cond ?_; simp [-cellOK, a3, a4, a5, a6, nw_cells, nw_fold, qy_cells, qy_fold, m4, m6, k5, htf, hnp]; refine ⟨?_, ?_⟩ <;> intro hc) | fail)
    refine hcut.useFz (σ0 := σ) ⟨43, τ.nx 43, 3⟩ (ext_fresh hE) (by repeat (first | assumption | exact Ext.refl _ | refine ext_new' ?_ | refine Ext.setF ?_ (by first | assumption | (simp [new_nx', St.set, fresh_none]; done) | exact ext_fresh (by assumption)))) (by simp [giveUp, new_m, set_m, netsAV, hrgf, e1, e2]; rfl) ?_
    intro τ2 hE2 hk2 _
    have g4 : τ2.m i4 = some (.buf [nwAV M G]) := by rw [e1, e2]; exact hk2 i4 _ (ne4 _ _) (new_up _ _ (set_hit m4))
    have g6 := hk2 i6 _ (ne6 _ _) (new_up _ _ ((set_ne d46.symm).trans m6))
  all_goals
    rw [vd0_fold] at g6
    obtain ⟨R0, hR0⟩ : ∃ R0, seeks n M q P Sq = R0 := ⟨_, rfl⟩
    rw [hR0]
    (try ((first | with_reducible refine dops_go ?_ | with_reducible refine OKv_go ?_ | with_reducible refine OKr_go ?_); simp [-cellOK, a3, a4, a5, a6, g4, g6, nw_cells, nw_fold, qy_cells, qy_fold, rgsAV])); repeat' (first | refine awp_seq ?_ | refine awp_block ?_ | (refine awp_skip ?_; try simp) | (refine awp_exit ?_; try simp) | (refine awp_ret ?_; try simp) | (refine retP_same (by simp) ?_; simp) | (refine retP_no (by simp) (by simp [noIds]) (by repeat (first | assumption | exact Ext.refl _ | refine ext_new' ?_ | refine Ext.setF ?_ (by first | assumption | (simp [new_nx', St.set, fresh_none]; done) | exact ext_fresh (by assumption)))) ?_; simp [-cellOK, a3, a4, a5, a6, g4, g6, nw_cells, nw_fold, qy_cells, qy_fold, rgsAV, new_m, set_m, new_nx']) | ((first | refine awp_reg ?_ | refine awp_drawT (fun _ => false) mixed (by decide +kernel) ?_ | refine awp_drawT isCallO mixed (by decide +kernel) ?_ | refine PCalls.use (hso) ?_ | refine Or.inl ⟨_, Or.inl (hso), ?_⟩); simp [-cellOK, a3, a4, a5, a6, g4, g6, nw_cells, nw_fold, qy_cells, qy_fold, rgsAV]) | (refine guarded_split ?_ ?_ <;> (intro hg; simp only [hg]; simp [-cellOK, a3, a4, a5, a6, g4, g6, nw_cells, nw_fold, qy_cells, qy_fold, rgsAV])) | (apply awp_cond_t; focus (simp [-cellOK, a3, a4, a5, a6, g4, g6, nw_cells, nw_fold, qy_cells, qy_fold, rgsAV]; done)) | (apply awp_cond_f; focus (simp [-cellOK, a3, a4, a5, a6, g4, g6, nw_cells, nw_fold, qy_cells, qy_fold, rgsAV]; done)) | (refine awp_cond ?_; simp [-cellOK, a3, a4, a5, a6, g4, g6, nw_cells, nw_fold, qy_cells, qy_fold, rgsAV]; refine ⟨?_, ?_⟩ <;> intro hc) | fail)
    refine awp_loopH (fun n' B ρ => Ext σ ρ ∧ B 3 = .pp (nwAV n f).cells 0 ∧ B 4 = .rp i4 0 0 ∧ B 5 = .pp (qyAV q).cells 0 ∧ B 6 = .rp i6 0 0 ∧ ρ.m i4 = some (.buf [nwAV M G]) ∧ ρ.m i6 = some (.buf [vd0AV]) ∧ B 8 = rgsAV P false ∧ B 51 = intsAV Sq false ∧ B 52 = .raw (.int .i64 Sq.length) ∧ ∃ i : Nat, B 53 = .raw (.int .i64 i) ∧ i ≤ Sq.length ∧ n' = Sq.length - i ∧ seeks n M q P (Sq.drop i) = R0) Sq.length ?_ ?_
    · exact ⟨(by repeat (first | assumption | exact Ext.refl _ | refine ext_new' ?_ | refine Ext.setF ?_ (by first | assumption | (simp [new_nx', St.set, fresh_none]; done) | exact ext_fresh (by assumption)))), by simp [a3], by simp [a4], by simp [a5], by simp [a6], g4, g6, by simp [rgsAV], by simp [intsAV], by simp [intsAV], 0, by simp, by omega, by omega, by simpa using hR0⟩
    clear a3 a4 a5 a6 g4 g6 m4 m6 hE2 hE hk2 hR0
    rintro n' B ρ ⟨hE, a3, a4, a5, a6, m4, m6, a8, a51, a52, i, a53, hi, rfl, hR⟩ I1 hI1
    by_cases hlt : i < Sq.length
    · have hx : Sq[i]? = some Sq[i] := List.getElem?_eq_getElem hlt
      have w1 : IntKind.i64.wrap ((i : Int) + 1) = ((i + 1 : Nat) : Int) := by rw [wrap64 (by omega) (by omega)]; omega
      rw [List.drop_eq_getElem_cons hlt] at hR
      obtain ⟨d, hd⟩ : ∃ d, Sq[i] = d := ⟨_, rfl⟩
      rw [hd] at hR
      simp only [seeks] at hR
      (try ((first | with_reducible refine dops_go ?_ | with_reducible refine OKv_go ?_ | with_reducible refine OKr_go ?_); simp [-cellOK, a3, a4, a5, a6, a8, a51, a52, a53, m4, m6, hlt, hx, hd, rgsAV, intsAV, iAV])); repeat' (first | refine awp_seq ?_ | refine awp_block ?_ | (refine awp_skip ?_; try simp) | (refine awp_exit ?_; try simp) | (refine awp_ret ?_; try simp) | (refine retP_same (by simp) ?_; simp) | (refine retP_no (by simp) (by simp [noIds]) (by repeat (first | assumption | exact Ext.refl _ | refine ext_new' ?_ | refine Ext.setF ?_ (by first | assumption | (simp [new_nx', St.set, fresh_none]; done) | exact ext_fresh (by assumption)))) ?_; simp [-cellOK, a3, a4, a5, a6, a8, a51, a52, a53, m4, m6, hlt, hx, hd, rgsAV, intsAV, iAV, new_m, set_m, new_nx']) | ((first | refine awp_reg ?_ | refine awp_drawT (fun _ => false) mixed (by decide +kernel) ?_ | refine awp_drawT isCallO mixed (by decide +kernel) ?_); simp [-cellOK, a3, a4, a5, a6, a8, a51, a52, a53, m4, m6, hlt, hx, hd, rgsAV, intsAV, iAV]) | (refine guarded_split ?_ ?_ <;> (intro hg; simp only [hg]; simp [-cellOK, a3, a4, a5, a6, a8, a51, a52, a53, m4, m6, hlt, hx, hd, rgsAV, intsAV, iAV])) | (apply awp_cond_t; focus (simp [-cellOK, a3, a4, a5, a6, a8, a51, a52, a53, m4, m6, hlt, hx, hd, rgsAV, intsAV, iAV]; done)) | (apply awp_cond_f; focus (simp [-cellOK, a3, a4, a5, a6, a8, a51, a52, a53, m4, m6, hlt, hx, hd, rgsAV, intsAV, iAV]; done)) | (refine awp_cond ?_; simp [-cellOK, a3, a4, a5, a6, a8, a51, a52, a53, m4, m6, hlt, hx, hd, rgsAV, intsAV, iAV]; refine ⟨?_, ?_⟩ <;> intro hc) | fail)
      refine awp_loopH (fun n' C τ => Ext σ τ ∧ C 3 = .pp (nwAV n f).cells 0 ∧ C 4 = .rp i4 0 0 ∧ C 5 = .pp (qyAV q).cells 0 ∧ C 6 = .rp i6 0 0 ∧ τ.m i4 = some (.buf [nwAV M G]) ∧ τ.m i6 = some (.buf [vd0AV]) ∧ C 8 = rgsAV P false ∧ C 51 = intsAV Sq false ∧ C 52 = .raw (.int .i64 Sq.length) ∧ C 53 = .raw (.int .i64 i) ∧ C 11 = .raw (.int .i64 d) ∧ C 57 = rgsAV P false ∧ C 58 = .raw (.int .i64 P.length) ∧ ∃ j : Nat, C 59 = .raw (.int .i64 j) ∧ j ≤ P.length ∧ n' = P.length - j ∧ seek n M q d P = seek n M q d (P.drop j)) P.length ?_ ?_
      · exact ⟨(by repeat (first | assumption | exact Ext.refl _ | refine ext_new' ?_ | refine Ext.setF ?_ (by first | assumption | (simp [new_nx', St.set, fresh_none]; done) | exact ext_fresh (by assumption)))), by simp [a3], by simp [a4], by simp [a5], by simp [a6], m4, m6, by simp [a8, rgsAV], by simp [a51, intsAV], by simp [a52], by simp [a53], by simp, by simp [rgsAV], by simp, 0, by simp, by omega, by omega, by simp⟩
      clear a3 a4 a5 a6 a8 a51 a52 a53 m4 m6 hE
      rintro n' C τ ⟨hE, a3, a4, a5, a6, m4, m6, a8, a51, a52, a53, a11, a57, a58, j, a59, hj, rfl, hS⟩ J1 hJ1
      by_cases hjl : j < P.length
      · have hy : P[j]? = some P[j] := List.getElem?_eq_getElem hjl
        have w2 : IntKind.i64.wrap ((j : Int) + 1) = ((j + 1 : Nat) : Int) := by rw [wrap64 (by omega) (by omega)]; omega
        rw [List.drop_eq_getElem_cons hjl] at hS
        obtain ⟨r, hr'⟩ : ∃ r, P[j] = r := ⟨_, rfl⟩
        rw [hr'] at hS
        simp only [seek] at hS
        have h1 := trace_calls n f d r.lo hn
        have h2 := trace_calls M G d r.lo hMok
        have l1 := traceR_len n d r.lo
        have l2 := traceR_len M d r.lo
        have l3 := hn.links
        have l4 := hMok.links
        have hb := breaks_calls n M f G q (traceR n d r.lo).1 (traceR M d r.lo).1 false false (by omega) (by omega)
        generalize (traceR n d r.lo).1 = T at h1 hb hS
        generalize (traceR M d r.lo).1 = U at h2 hb hS
        generalize (traceR n d r.lo).2 = eT at h1
        generalize (traceR M d r.lo).2 = eU at h2
        have hrq : ∀ x y : Int, setPart (AV.agg [.raw (.int .u32 0), .raw (.int .u32 0)]) 0 [.raw (.int .u32 x), .raw (.int .u32 y)] = rgAV ⟨x, y⟩ := fun _ _ => rfl
        have hrf : ∀ x y : Int, AV.agg [.raw (.int .u32 x), .raw (.int .u32 y)] = rgAV ⟨x, y⟩ := fun _ _ => rfl
        have hrp : ∀ x y : Int, setPart (rgAV ⟨0, 0⟩) 0 [.raw (.int .u32 x), .raw (.int .u32 y)] = rgAV ⟨x, y⟩ := fun _ _ => rfl
        by_cases hbr : breaksQ q T U = true
        · rw [hbr] at hb
          rw [if_pos hbr] at hS
          rw [hS] at hR
          simp only [] at hR
          subst hR
          (try ((first | with_reducible refine dops_go ?_ | with_reducible refine OKv_go ?_ | with_reducible refine OKr_go ?_); simp [-cellOK, a3, a4, a5, a6, a8, a51, a52, a53, a11, a57, a58, a59, m4, m6, hjl, hy, hr', rgsAV, rg_cells, hrq, hrf, hrp, nw_cells, nw_fold, qy_cells, qy_fold, tk_cells, tk_fold, tk_putL, vd0_cells, vd0_put, vd0_putV, vd_cells, vd_fold, new_m, set_m, new_nx', n4, n6, d46, d64])); repeat' (first | refine awp_seq ?_ | refine awp_block ?_ | (refine awp_skip ?_; try simp) | (refine awp_exit ?_; try simp) | (refine awp_ret ?_; try simp) | (refine retP_same (by simp) ?_; simp) | (refine retP_no (by simp) (by simp [noIds]) (by repeat (first | assumption | exact Ext.refl _ | refine ext_new' ?_ | refine Ext.setF ?_ (by first | assumption | (simp [new_nx', St.set, fresh_none]; done) | exact ext_fresh (by assumption)))) ?_; simp [-cellOK, a3, a4, a5, a6, a8, a51, a52, a53, a11, a57, a58, a59, m4, m6, hjl, hy, hr', rgsAV, rg_cells, hrq, hrf, hrp, nw_cells, nw_fold, qy_cells, qy_fold, tk_cells, tk_fold, tk_putL, vd0_cells, vd0_put, vd0_putV, vd_cells, vd_fold, new_m, set_m, new_nx', n4, n6, d46, d64, new_m, set_m, new_nx']) | ((first | refine awp_reg ?_ | refine awp_drawT (fun _ => false) mixed (by decide +kernel) ?_ | refine awp_drawT isCallO mixed (by decide +kernel) ?_ | refine PCalls.use (h1) ?_ | refine Or.inl ⟨_, Or.inl (h1), ?_⟩ | refine PCalls.use (h2) ?_ | refine Or.inl ⟨_, Or.inl (h2), ?_⟩ | refine PCalls.use (hb) ?_ | refine Or.inl ⟨_, Or.inl (hb), ?_⟩); simp [-cellOK, a3, a4, a5, a6, a8, a51, a52, a53, a11, a57, a58, a59, m4, m6, hjl, hy, hr', rgsAV, rg_cells, hrq, hrf, hrp, nw_cells, nw_fold, qy_cells, qy_fold, tk_cells, tk_fold, tk_putL, vd0_cells, vd0_put, vd0_putV, vd_cells, vd_fold, new_m, set_m, new_nx', n4, n6, d46, d64]) | (refine guarded_split ?_ ?_ <;> (intro hg; simp only [hg]; simp [-cellOK, a3, a4, a5, a6, a8, a51, a52, a53, a11, a57, a58, a59, m4, m6, hjl, hy, hr', rgsAV, rg_cells, hrq, hrf, hrp, nw_cells, nw_fold, qy_cells, qy_fold, tk_cells, tk_fold, tk_putL, vd0_cells, vd0_put, vd0_putV, vd_cells, vd_fold, new_m, set_m, new_nx', n4, n6, d46, d64])) | (apply awp_cond_t; focus (simp [-cellOK, a3, a4, a5, a6, a8, a51, a52, a53, a11, a57, a58, a59, m4, m6, hjl, hy, hr', rgsAV, rg_cells, hrq, hrf, hrp, nw_cells, nw_fold, qy_cells, qy_fold, tk_cells, tk_fold, tk_putL, vd0_cells, vd0_put, vd0_putV, vd_cells, vd_fold, new_m, set_m, new_nx', n4, n6, d46, d64]; done)) | (apply awp_cond_f; focus (simp [-cellOK, a3, a4, a5, a6, a8, a51, a52, a53, a11, a57, a58, a59, m4, m6, hjl, hy, hr', rgsAV, rg_cells, hrq, hrf, hrp, nw_cells, nw_fold, qy_cells, qy_fold, tk_cells, tk_fold, tk_putL, vd0_cells, vd0_put, vd0_putV, vd_cells, vd_fold, new_m, set_m, new_nx', n4, n6, d46, d64]; done)) | (refine awp_cond ?_; simp [-cellOK, a3, a4, a5, a6, a8, a51, a52, a53, a11, a57, a58, a59, m4, m6, hjl, hy, hr', rgsAV, rg_cells, hrq, hrf, hrp, nw_cells, nw_fold, qy_cells, qy_fold, tk_cells, tk_fold, tk_putL, vd0_cells, vd0_put, vd0_putV, vd_cells, vd_fold, new_m, set_m, new_nx', n4, n6, d46, d64]; refine ⟨?_, ?_⟩ <;> intro hc) | fail)
        · have hbr : breaksQ q T U = false := by simpa using hbr
          rw [hbr] at hb
          rw [hbr, if_neg (by simp)] at hS
          (try ((first | with_reducible refine dops_go ?_ | with_reducible refine OKv_go ?_ | with_reducible refine OKr_go ?_); simp [-cellOK, a3, a4, a5, a6, a8, a51, a52, a53, a11, a57, a58, a59, m4, m6, hjl, hy, hr', rgsAV, rg_cells, hrq, hrf, hrp, nw_cells, nw_fold, qy_cells, qy_fold, tk_cells, tk_fold, tk_putL, new_m, set_m, new_nx', n4, n6, d46, d64, w2])); repeat' (first | refine awp_seq ?_ | refine awp_block ?_ | (refine awp_skip ?_; try simp) | (refine awp_exit ?_; try simp) | (refine awp_ret ?_; try simp) | (refine retP_same (by simp) ?_; simp) | (refine retP_no (by simp) (by simp [noIds]) (by repeat (first | assumption | exact Ext.refl _ | refine ext_new' ?_ | refine Ext.setF ?_ (by first | assumption | (simp [new_nx', St.set, fresh_none]; done) | exact ext_fresh (by assumption)))) ?_; simp [-cellOK, a3, a4, a5, a6, a8, a51, a52, a53, a11, a57, a58, a59, m4, m6, hjl, hy, hr', rgsAV, rg_cells, hrq, hrf, hrp, nw_cells, nw_fold, qy_cells, qy_fold, tk_cells, tk_fold, tk_putL, new_m, set_m, new_nx', n4, n6, d46, d64, w2, new_m, set_m, new_nx']) | ((first | refine awp_reg ?_ | refine awp_drawT (fun _ => false) mixed (by decide +kernel) ?_ | refine awp_drawT isCallO mixed (by decide +kernel) ?_ | refine PCalls.use (h1) ?_ | refine Or.inl ⟨_, Or.inl (h1), ?_⟩ | refine PCalls.use (h2) ?_ | refine Or.inl ⟨_, Or.inl (h2), ?_⟩ | refine PCalls.use (hb) ?_ | refine Or.inl ⟨_, Or.inl (hb), ?_⟩); simp [-cellOK, a3, a4, a5, a6, a8, a51, a52, a53, a11, a57, a58, a59, m4, m6, hjl, hy, hr', rgsAV, rg_cells, hrq, hrf, hrp, nw_cells, nw_fold, qy_cells, qy_fold, tk_cells, tk_fold, tk_putL, new_m, set_m, new_nx', n4, n6, d46, d64, w2]) | (refine guarded_split ?_ ?_ <;> (intro hg; simp only [hg]; simp [-cellOK, a3, a4, a5, a6, a8, a51, a52, a53, a11, a57, a58, a59, m4, m6, hjl, hy, hr', rgsAV, rg_cells, hrq, hrf, hrp, nw_cells, nw_fold, qy_cells, qy_fold, tk_cells, tk_fold, tk_putL, new_m, set_m, new_nx', n4, n6, d46, d64, w2])) | (apply awp_cond_t; focus (simp [-cellOK, a3, a4, a5, a6, a8, a51, a52, a53, a11, a57, a58, a59, m4, m6, hjl, hy, hr', rgsAV, rg_cells, hrq, hrf, hrp, nw_cells, nw_fold, qy_cells, qy_fold, tk_cells, tk_fold, tk_putL, new_m, set_m, new_nx', n4, n6, d46, d64, w2]; done)) | (apply awp_cond_f; focus (simp [-cellOK, a3, a4, a5, a6, a8, a51, a52, a53, a11, a57, a58, a59, m4, m6, hjl, hy, hr', rgsAV, rg_cells, hrq, hrf, hrp, nw_cells, nw_fold, qy_cells, qy_fold, tk_cells, tk_fold, tk_putL, new_m, set_m, new_nx', n4, n6, d46, d64, w2]; done)) | (refine awp_cond ?_; simp [-cellOK, a3, a4, a5, a6, a8, a51, a52, a53, a11, a57, a58, a59, m4, m6, hjl, hy, hr', rgsAV, rg_cells, hrq, hrf, hrp, nw_cells, nw_fold, qy_cells, qy_fold, tk_cells, tk_fold, tk_putL, new_m, set_m, new_nx', n4, n6, d46, d64, w2]; refine ⟨?_, ?_⟩ <;> intro hc) | fail)
          refine hJ1 (P.length - (j + 1)) _ _ (by omega) ⟨(by repeat (first | assumption | exact Ext.refl _ | refine ext_new' ?_ | refine Ext.setF ?_ (by first | assumption | (simp [new_nx', St.set, fresh_none]; done) | exact ext_fresh (by assumption)))), by simp [a3], by simp [a4], by simp [a5], by simp [a6], ?_, ?_, by simp [a8, rgsAV], by simp [a51], by simp [a52], by simp [a53], by simp [a11], by simp [a57, rgsAV], by simp [a58], j + 1, by simp, by omega, rfl, hS⟩
          · simp [new_m, set_m, new_nx', n4, m4]
          · simp [new_m, set_m, new_nx', n6, m6]
      · have : j = P.length := by omega
        subst this
        rw [List.drop_length] at hS
        rw [hS] at hR
        simp only [seek] at hR
        (try ((first | with_reducible refine dops_go ?_ | with_reducible refine OKv_go ?_ | with_reducible refine OKr_go ?_); simp [-cellOK, a3, a4, a5, a6, a8, a51, a52, a53, a11, a57, a58, a59, w1])); repeat' (first | refine awp_seq ?_ | refine awp_block ?_ | (refine awp_skip ?_; try simp) | (refine awp_exit ?_; try simp) | (refine awp_ret ?_; try simp) | (refine retP_same (by simp) ?_; simp) | (refine retP_no (by simp) (by simp [noIds]) (by repeat (first | assumption | exact Ext.refl _ | refine ext_new' ?_ | refine Ext.setF ?_ (by first | assumption | (simp [new_nx', St.set, fresh_none]; done) | exact ext_fresh (by assumption)))) ?_; simp [-cellOK, a3, a4, a5, a6, a8, a51, a52, a53, a11, a57, a58, a59, w1, new_m, set_m, new_nx']) | ((first | refine awp_reg ?_ | refine awp_drawT (fun _ => false) mixed (by decide +kernel) ?_ | refine awp_drawT isCallO mixed (by decide +kernel) ?_); simp [-cellOK, a3, a4, a5, a6, a8, a51, a52, a53, a11, a57, a58, a59, w1]) | (refine guarded_split ?_ ?_ <;> (intro hg; simp only [hg]; simp [-cellOK, a3, a4, a5, a6, a8, a51, a52, a53, a11, a57, a58, a59, w1])) | (apply awp_cond_t; focus (simp [-cellOK, a3, a4, a5, a6, a8, a51, a52, a53, a11, a57, a58, a59, w1]; done)) | (apply awp_cond_f; focus (simp [-cellOK, a3, a4, a5, a6, a8, a51, a52, a53, a11, a57, a58, a59, w1]; done)) | (refine awp_cond ?_; simp [-cellOK, a3, a4, a5, a6, a8, a51, a52, a53, a11, a57, a58, a59, w1]; refine ⟨?_, ?_⟩ <;> intro hc) | fail)
        exact hI1 (Sq.length - (i + 1)) _ _ (by omega) ⟨hE, by simp [a3], by simp [a4], by simp [a5], by simp [a6], m4, m6, by simp [a8], by simp [a51], by simp [a52], i + 1, by simp, by omega, rfl, hR⟩
    · have : i = Sq.length := by omega
      subst this
      rw [List.drop_length] at hR
      simp only [seeks] at hR
      subst hR
      (try ((first | with_reducible refine dops_go ?_ | with_reducible refine OKv_go ?_ | with_reducible refine OKr_go ?_); simp [-cellOK, a3, a4, a5, a6, a8, a51, a52, a53, m6, vd0_cells, vd0_put])); repeat' (first | refine awp_seq ?_ | refine awp_block ?_ | (refine awp_skip ?_; try simp) | (refine awp_exit ?_; try simp) | (refine awp_ret ?_; try simp) | ((first | refine awp_reg ?_ | refine awp_drawT (fun _ => false) mixed (by decide +kernel) ?_ | refine awp_drawT isCallO mixed (by decide +kernel) ?_); simp [-cellOK, a3, a4, a5, a6, a8, a51, a52, a53, m6, vd0_cells, vd0_put]) | (refine guarded_split ?_ ?_ <;> (intro hg; simp only [hg]; simp [-cellOK, a3, a4, a5, a6, a8, a51, a52, a53, m6, vd0_cells, vd0_put])) | (apply awp_cond_t; focus (simp [-cellOK, a3, a4, a5, a6, a8, a51, a52, a53, m6, vd0_cells, vd0_put]; done)) | (apply awp_cond_f; focus (simp [-cellOK, a3, a4, a5, a6, a8, a51, a52, a53, m6, vd0_cells, vd0_put]; done)) | (refine awp_cond ?_; simp [-cellOK, a3, a4, a5, a6, a8, a51, a52, a53, m6, vd0_cells, vd0_put]; refine ⟨?_, ?_⟩ <;> intro hc) | fail)
      refine retP_weak (x := .tup [.agg [.raw (.bool true), .raw (.int .i64 0), .raw (.int .u32 0), .sl 0 [] true, .raw (.int .i64 0), .raw (.int .i64 0), .raw (.int .i64 0)], .raw (.int .i64 0)]) (.inr rfl) (Ext.setF hE f6) ?_ ?_
      · simp [set_m, m6, a6]
      · simpa [giveUps, giveUp] using weaker_vd true 0
/-- Are two verdicts alike? -/
theorem vdSame_calls (x y : Vd) (f g : Bool) (hx : x.tr.path.length < 2 ^ 60) (hy : y.tr.path.length < 2 ^ 60) : PCalls Tryz.prog 20 [vdAV x f, vdAV y g] (.raw (.bool (decide (x = y)))) := by
  have h := tkSame_calls x.tr y.tr f g hx hy
  have e : decide (x = y) = (decide (x.holds = y.holds) && (decide (x.src = y.src) && (decide (x.addr = y.addr) && decide (x.tr = y.tr)))) := by
    cases x; cases y; rw [Bool.eq_iff_iff]; simp
  rw [e]
  generalize decide (x.tr = y.tr) = b at h ⊢
  refine pbody Tryz.func20 rfl (N := 31) rfl rfl (by simp) (by simp [noIds]) fun σ => ?_
  have hb : (x.holds == y.holds) = decide (x.holds = y.holds) := by cases x.holds <;> cases y.holds <;> rfl
  by_cases h1 : x.holds = y.holds <;> by_cases h2 : x.src = y.src <;> by_cases h3 : x.addr = y.addr <;> ((try ((first | with_reducible refine dops_go ?_ | with_reducible refine OKv_go ?_ | with_reducible refine OKr_go ?_); simp [-cellOK, vd_cells, tk_fold, hb, h1, h2, h3])); repeat' (first | refine awp_seq ?_ | refine awp_block ?_ | (refine awp_skip ?_; try simp) | (refine awp_exit ?_; try simp) | (refine awp_ret ?_; try simp) | (refine retP_same (by simp) ?_; simp) | (refine retP_no (by simp) (by simp [noIds]) (by repeat (first | assumption | exact Ext.refl _ | refine ext_new' ?_ | refine Ext.setF ?_ (by first | assumption | (simp [new_nx', St.set, fresh_none]; done) | exact ext_fresh (by assumption)))) ?_; simp [-cellOK, vd_cells, tk_fold, hb, h1, h2, h3, new_m, set_m, new_nx']) | ((first | refine awp_reg ?_ | refine awp_drawT (fun _ => false) mixed (by decide +kernel) ?_ | refine awp_drawT isCallO mixed (by decide +kernel) ?_ | refine PCalls.use (h) ?_ | refine Or.inl ⟨_, Or.inl (h), ?_⟩); simp [-cellOK, vd_cells, tk_fold, hb, h1, h2, h3]) | (refine guarded_split ?_ ?_ <;> (intro hg; simp only [hg]; simp [-cellOK, vd_cells, tk_fold, hb, h1, h2, h3])) | (apply awp_cond_t; focus (simp [-cellOK, vd_cells, tk_fold, hb, h1, h2, h3]; done)) | (apply awp_cond_f; focus (simp [-cellOK, vd_cells, tk_fold, hb, h1, h2, h3]; done)) | (refine awp_cond ?_; simp [-cellOK, vd_cells, tk_fold, hb, h1, h2, h3]; refine ⟨?_, ?_⟩ <;> intro hc) | fail))
end Go.Proofs.YtanimmdlgmkmkaaGreat.Av


/- Networks: right networks. -/
namespace Go.Proofs.YtanimmdlgmkmkaaGreat.Av
open Go
set_option linter.unusedSimpArgs false
set_option linter.unusedVariables false
set_option maxRecDepth 100000
set_option maxHeartbeats 2000000
set_option pp.maxSteps 300

def rightN (n : Nw) : Bool := rightT n.t && (allB n.rules && fitsB n.t n.rules)
end Go.Proofs.YtanimmdlgmkmkaaGreat.Av


/- Networks: the document's step. -/
namespace Go.Proofs.YtanimmdlgmkmkaaGreat.Av
open Go
set_option linter.unusedSimpArgs false
set_option linter.unusedVariables false
set_option maxRecDepth 100000
set_option maxHeartbeats 2000000
set_option pp.maxSteps 600

/-- The step as the document says it. -/
def refStepF (n : Nw) (d a : Int) : Int × Pt :=
  if refDeniesB n.rules d a = true then (2, ⟨0, 0⟩) else if n.rules.any (refP d a false) = false then (0, ⟨0, 0⟩) else if (minR (n.rules.filter (refP d a false))).kind = 1 then (1, ⟨0, 0⟩)
  else if (refNextL n.t.links ⟨d, (minR (n.rules.filter (refP d a false))).port⟩).isSome = true then (4, ⟨d, (minR (n.rules.filter (refP d a false))).port⟩) else (3, ⟨d, (minR (n.rules.filter (refP d a false))).port⟩)
theorem refStep_calls (n : Nw) (f : Fl) (d a : Int) (hl : n.t.links.length < 2 ^ 60) (hl2 : n.rules.length < 2932031007403) :
    PCalls Tryz.prog 119 [nwAV n f, .raw (.int .i64 d), .raw (.int .u32 a)] (.tup [.raw (.int .i64 (refStepF n d a).1), ptAV (refStepF n d a).2]) := by
  have hd := refDenies_calls n.rules f.r d a hl2
  have hm := refMatch_calls n.rules f.r d a hl2
  have hn := fun p => refNext_calls n.t f p hl
  unfold refStepF
  obtain ⟨b1, h1⟩ : ∃ b, refDeniesB n.rules d a = b := ⟨_, rfl⟩
  obtain ⟨b2, h2⟩ : ∃ b, n.rules.any (refP d a false) = b := ⟨_, rfl⟩
  obtain ⟨r, hr⟩ : ∃ r, minR (n.rules.filter (refP d a false)) = r := ⟨_, rfl⟩
  rw [h1] at hd
  rw [h2, hr] at hm
  rw [h1, h2, hr]
  clear h1 h2 hr
  have hn := hn ⟨d, r.port⟩
  obtain ⟨b3, h3⟩ : ∃ b, (refNextL n.t.links ⟨d, r.port⟩).isSome = b := ⟨_, rfl⟩
  obtain ⟨q, hq⟩ : ∃ q, (refNextL n.t.links ⟨d, r.port⟩).getD ⟨0, 0⟩ = q := ⟨_, rfl⟩
  rw [h3, hq] at hn
  rw [h3]
  refine pbody Tryz.func119 rfl (N := 50) rfl rfl (by simp) (by simp [noIds, ptAV]) fun σ => ?_
  have ho1 : cellOK (intsAV n.t.ports f.p) = true := rfl
  have ho2 : cellOK (linksAV n.t.links f.l) = true := rfl
  have ho3 : cellOK (rulesAV n.rules f.r) = true := rfl
  simp only [cellOK] at ho1 ho2 ho3
  have hpf : ∀ x y : Int, AV.agg [.raw (.int .i64 x), .raw (.int .i64 y)] = ptAV ⟨x, y⟩ := fun _ _ => rfl
  have hpc : ∀ q : Pt, (ptAV q).cells = [.raw (.int .i64 q.dev), .raw (.int .i64 q.port)] := fun q => rfl
  have hps : ∀ (q : Pt) (x y : Int), setPart (ptAV q) 0 [.raw (.int .i64 x), .raw (.int .i64 y)] = ptAV ⟨x, y⟩ := fun _ _ _ => rfl
  have f7 : σ.m ⟨7, σ.nx 7, 2⟩ = none := fresh_none _ _ _
  have hnf : AV.agg [intsAV n.t.ports f.p, linksAV n.t.links f.l] = tpAV n.t f := rfl
  (try (first | (with_reducible refine dops_go ?_; simp [nw_cells, ho1, ho2, ho3, hpf, hpc, hps]) | (with_reducible refine OKv_go ?_; simp [nw_cells, ho1, ho2, ho3, hpf, hpc, hps]) | (with_reducible refine OKr_go ?_; simp [nw_cells, ho1, ho2, ho3, hpf, hpc, hps]))); repeat' (first | refine awp_seq ?_ | refine awp_block ?_ | (refine awp_skip ?_; try simp) | (refine awp_exit ?_; try simp) | (refine awp_ret ?_; try simp) | (refine retP_same (by simp) ?_; simp) | (refine retP_flat (by simp) (by simp) (by simp (maxDischargeDepth := 30) [nw_cells, ho1, ho2, ho3, hpf, hpc, hps]) ?_; simp) | (refine awp_reg ?_; simp [nw_cells, ho1, ho2, ho3, hpf, hpc, hps]) | (refine awp_drawT (fun _ => false) mixed (by decide +kernel) ?_; simp [nw_cells, ho1, ho2, ho3, hpf, hpc, hps]) | (refine guarded_split ?_ ?_ <;> (intro hg; simp only [hg]; simp [nw_cells, ho1, ho2, ho3, hpf, hpc, hps])) | (apply awp_cond_t; focus (simp [nw_cells, ho1, ho2, ho3, hpf, hpc, hps]; done)) | (apply awp_cond_f; focus (simp [nw_cells, ho1, ho2, ho3, hpf, hpc, hps]; done)) | (refine awp_cond ?_; simp [nw_cells, ho1, ho2, ho3, hpf, hpc, hps]; refine ⟨?_, ?_⟩ <;> intro hc))
  refine PCalls.use hd ?_
  cases b1 with
  | true =>
    (try (first | (with_reducible refine dops_go ?_; simp [nw_cells, ho1, ho2, ho3, hpf, hpc, hps]) | (with_reducible refine OKv_go ?_; simp [nw_cells, ho1, ho2, ho3, hpf, hpc, hps]) | (with_reducible refine OKr_go ?_; simp [nw_cells, ho1, ho2, ho3, hpf, hpc, hps]))); repeat' (first | refine awp_seq ?_ | refine awp_block ?_ | (refine awp_skip ?_; try simp) | (refine awp_exit ?_; try simp) | (refine awp_ret ?_; try simp) | (refine awp_reg ?_; simp [nw_cells, ho1, ho2, ho3, hpf, hpc, hps]) | (refine awp_drawT (fun _ => false) mixed (by decide +kernel) ?_; simp [nw_cells, ho1, ho2, ho3, hpf, hpc, hps]) | (refine guarded_split ?_ ?_ <;> (intro hg; simp only [hg]; simp [nw_cells, ho1, ho2, ho3, hpf, hpc, hps])) | (apply awp_cond_t; focus (simp [nw_cells, ho1, ho2, ho3, hpf, hpc, hps]; done)) | (apply awp_cond_f; focus (simp [nw_cells, ho1, ho2, ho3, hpf, hpc, hps]; done)) | (refine awp_cond ?_; simp [nw_cells, ho1, ho2, ho3, hpf, hpc, hps]; refine ⟨?_, ?_⟩ <;> intro hc))
    refine retP_flat (.inr rfl) rfl (by repeat (first | exact Ext.refl _ | refine ext_new' ?_ | refine Ext.setF ?_ (by simp [new_nx', St.set, fresh_none]))) ?_
    simp [St.set, St.new, hpc, hpf, hps]
  | false =>
    (try (first | (with_reducible refine dops_go ?_; simp [nw_cells, ho1, ho2, ho3, hpf, hpc, hps]) | (with_reducible refine OKv_go ?_; simp [nw_cells, ho1, ho2, ho3, hpf, hpc, hps]) | (with_reducible refine OKr_go ?_; simp [nw_cells, ho1, ho2, ho3, hpf, hpc, hps]))); repeat' (first | refine awp_seq ?_ | refine awp_block ?_ | (refine awp_skip ?_; try simp) | (refine awp_exit ?_; try simp) | (refine awp_ret ?_; try simp) | (refine retP_same (by simp) ?_; simp) | (refine retP_flat (by simp) (by simp) (by simp (maxDischargeDepth := 30) [nw_cells, ho1, ho2, ho3, hpf, hpc, hps]) ?_; simp) | (refine awp_reg ?_; simp [nw_cells, ho1, ho2, ho3, hpf, hpc, hps]) | (refine awp_drawT (fun _ => false) mixed (by decide +kernel) ?_; simp [nw_cells, ho1, ho2, ho3, hpf, hpc, hps]) | (refine guarded_split ?_ ?_ <;> (intro hg; simp only [hg]; simp [nw_cells, ho1, ho2, ho3, hpf, hpc, hps])) | (apply awp_cond_t; focus (simp [nw_cells, ho1, ho2, ho3, hpf, hpc, hps]; done)) | (apply awp_cond_f; focus (simp [nw_cells, ho1, ho2, ho3, hpf, hpc, hps]; done)) | (refine awp_cond ?_; simp [nw_cells, ho1, ho2, ho3, hpf, hpc, hps]; refine ⟨?_, ?_⟩ <;> intro hc))
    refine PCalls.use hm ?_
    cases b2 with
    | false =>
      (try (first | (with_reducible refine dops_go ?_; simp [nw_cells, ho1, ho2, ho3, hpf, hpc, hps, ru_cells, ru_ok, ru_fold]) | (with_reducible refine OKv_go ?_; simp [nw_cells, ho1, ho2, ho3, hpf, hpc, hps, ru_cells, ru_ok, ru_fold]) | (with_reducible refine OKr_go ?_; simp [nw_cells, ho1, ho2, ho3, hpf, hpc, hps, ru_cells, ru_ok, ru_fold]))); repeat' (first | refine awp_seq ?_ | refine awp_block ?_ | (refine awp_skip ?_; try simp) | (refine awp_exit ?_; try simp) | (refine awp_ret ?_; try simp) | (refine awp_reg ?_; simp [nw_cells, ho1, ho2, ho3, hpf, hpc, hps, ru_cells, ru_ok, ru_fold]) | (refine awp_drawT (fun _ => false) mixed (by decide +kernel) ?_; simp [nw_cells, ho1, ho2, ho3, hpf, hpc, hps, ru_cells, ru_ok, ru_fold]) | (refine guarded_split ?_ ?_ <;> (intro hg; simp only [hg]; simp [nw_cells, ho1, ho2, ho3, hpf, hpc, hps, ru_cells, ru_ok, ru_fold])) | (apply awp_cond_t; focus (simp [nw_cells, ho1, ho2, ho3, hpf, hpc, hps, ru_cells, ru_ok, ru_fold]; done)) | (apply awp_cond_f; focus (simp [nw_cells, ho1, ho2, ho3, hpf, hpc, hps, ru_cells, ru_ok, ru_fold]; done)) | (refine awp_cond ?_; simp [nw_cells, ho1, ho2, ho3, hpf, hpc, hps, ru_cells, ru_ok, ru_fold]; refine ⟨?_, ?_⟩ <;> intro hc))
      refine retP_flat (.inr rfl) rfl (by repeat (first | exact Ext.refl _ | refine ext_new' ?_ | refine Ext.setF ?_ (by simp [new_nx', St.set, fresh_none]))) ?_
      simp [St.set, St.new, hpc, hpf, hps]
    | true =>
      by_cases hk : r.kind = 1
      · (try (first | (with_reducible refine dops_go ?_; simp [nw_cells, ho1, ho2, ho3, hpf, hpc, hps, ru_cells, ru_ok, ru_fold, hk]) | (with_reducible refine OKv_go ?_; simp [nw_cells, ho1, ho2, ho3, hpf, hpc, hps, ru_cells, ru_ok, ru_fold, hk]) | (with_reducible refine OKr_go ?_; simp [nw_cells, ho1, ho2, ho3, hpf, hpc, hps, ru_cells, ru_ok, ru_fold, hk]))); repeat' (first | refine awp_seq ?_ | refine awp_block ?_ | (refine awp_skip ?_; try simp) | (refine awp_exit ?_; try simp) | (refine awp_ret ?_; try simp) | (refine awp_reg ?_; simp [nw_cells, ho1, ho2, ho3, hpf, hpc, hps, ru_cells, ru_ok, ru_fold, hk]) | (refine awp_drawT (fun _ => false) mixed (by decide +kernel) ?_; simp [nw_cells, ho1, ho2, ho3, hpf, hpc, hps, ru_cells, ru_ok, ru_fold, hk]) | (refine guarded_split ?_ ?_ <;> (intro hg; simp only [hg]; simp [nw_cells, ho1, ho2, ho3, hpf, hpc, hps, ru_cells, ru_ok, ru_fold, hk])) | (apply awp_cond_t; focus (simp [nw_cells, ho1, ho2, ho3, hpf, hpc, hps, ru_cells, ru_ok, ru_fold, hk]; done)) | (apply awp_cond_f; focus (simp [nw_cells, ho1, ho2, ho3, hpf, hpc, hps, ru_cells, ru_ok, ru_fold, hk]; done)) | (refine awp_cond ?_; simp [nw_cells, ho1, ho2, ho3, hpf, hpc, hps, ru_cells, ru_ok, ru_fold, hk]; refine ⟨?_, ?_⟩ <;> intro hc))
        refine retP_flat (.inr rfl) rfl (by repeat (first | exact Ext.refl _ | refine ext_new' ?_ | refine Ext.setF ?_ (by simp [new_nx', St.set, fresh_none]))) ?_
        simp [St.set, St.new, hpc, hpf, hps, hk]
      · (try (first | (with_reducible refine dops_go ?_; simp [nw_cells, ho1, ho2, ho3, hpf, hpc, hps, ru_cells, ru_ok, ru_fold, hk, hnf, new_m, set_m, new_nx']) | (with_reducible refine OKv_go ?_; simp [nw_cells, ho1, ho2, ho3, hpf, hpc, hps, ru_cells, ru_ok, ru_fold, hk, hnf, new_m, set_m, new_nx']) | (with_reducible refine OKr_go ?_; simp [nw_cells, ho1, ho2, ho3, hpf, hpc, hps, ru_cells, ru_ok, ru_fold, hk, hnf, new_m, set_m, new_nx']))); repeat' (first | refine awp_seq ?_ | refine awp_block ?_ | (refine awp_skip ?_; try simp) | (refine awp_exit ?_; try simp) | (refine awp_ret ?_; try simp) | (refine retP_same (by simp) ?_; simp) | (refine retP_flat (by simp) (by simp) (by simp (maxDischargeDepth := 30) [nw_cells, ho1, ho2, ho3, hpf, hpc, hps, ru_cells, ru_ok, ru_fold, hk, hnf, new_m, set_m, new_nx']) ?_; simp) | (refine awp_reg ?_; simp [nw_cells, ho1, ho2, ho3, hpf, hpc, hps, ru_cells, ru_ok, ru_fold, hk, hnf, new_m, set_m, new_nx']) | (refine awp_drawT (fun _ => false) mixed (by decide +kernel) ?_; simp [nw_cells, ho1, ho2, ho3, hpf, hpc, hps, ru_cells, ru_ok, ru_fold, hk, hnf, new_m, set_m, new_nx']) | (refine guarded_split ?_ ?_ <;> (intro hg; simp only [hg]; simp [nw_cells, ho1, ho2, ho3, hpf, hpc, hps, ru_cells, ru_ok, ru_fold, hk, hnf, new_m, set_m, new_nx'])) | (apply awp_cond_t; focus (simp [nw_cells, ho1, ho2, ho3, hpf, hpc, hps, ru_cells, ru_ok, ru_fold, hk, hnf, new_m, set_m, new_nx']; done)) | (apply awp_cond_f; focus (simp [nw_cells, ho1, ho2, ho3, hpf, hpc, hps, ru_cells, ru_ok, ru_fold, hk, hnf, new_m, set_m, new_nx']; done)) | (refine awp_cond ?_; simp [nw_cells, ho1, ho2, ho3, hpf, hpc, hps, ru_cells, ru_ok, ru_fold, hk, hnf, new_m, set_m, new_nx']; refine ⟨?_, ?_⟩ <;> intro hc))
        refine PCalls.use hn ?_
        cases b3 with
        | true =>
          (try (first | (with_reducible refine dops_go ?_; simp [nw_cells, ho1, ho2, ho3, hpf, hpc, hps, ru_cells, ru_ok, ru_fold, hk, hnf, new_m, set_m, new_nx']) | (with_reducible refine OKv_go ?_; simp [nw_cells, ho1, ho2, ho3, hpf, hpc, hps, ru_cells, ru_ok, ru_fold, hk, hnf, new_m, set_m, new_nx']) | (with_reducible refine OKr_go ?_; simp [nw_cells, ho1, ho2, ho3, hpf, hpc, hps, ru_cells, ru_ok, ru_fold, hk, hnf, new_m, set_m, new_nx']))); repeat' (first | refine awp_seq ?_ | refine awp_block ?_ | (refine awp_skip ?_; try simp) | (refine awp_exit ?_; try simp) | (refine awp_ret ?_; try simp) | (refine awp_reg ?_; simp [nw_cells, ho1, ho2, ho3, hpf, hpc, hps, ru_cells, ru_ok, ru_fold, hk, hnf, new_m, set_m, new_nx']) | (refine awp_drawT (fun _ => false) mixed (by decide +kernel) ?_; simp [nw_cells, ho1, ho2, ho3, hpf, hpc, hps, ru_cells, ru_ok, ru_fold, hk, hnf, new_m, set_m, new_nx']) | (refine guarded_split ?_ ?_ <;> (intro hg; simp only [hg]; simp [nw_cells, ho1, ho2, ho3, hpf, hpc, hps, ru_cells, ru_ok, ru_fold, hk, hnf, new_m, set_m, new_nx'])) | (apply awp_cond_t; focus (simp [nw_cells, ho1, ho2, ho3, hpf, hpc, hps, ru_cells, ru_ok, ru_fold, hk, hnf, new_m, set_m, new_nx']; done)) | (apply awp_cond_f; focus (simp [nw_cells, ho1, ho2, ho3, hpf, hpc, hps, ru_cells, ru_ok, ru_fold, hk, hnf, new_m, set_m, new_nx']; done)) | (refine awp_cond ?_; simp [nw_cells, ho1, ho2, ho3, hpf, hpc, hps, ru_cells, ru_ok, ru_fold, hk, hnf, new_m, set_m, new_nx']; refine ⟨?_, ?_⟩ <;> intro hc))
          refine retP_flat (.inr rfl) rfl (by repeat (first | exact Ext.refl _ | refine ext_new' ?_ | refine Ext.setF ?_ (by simp [new_nx', St.set, fresh_none]))) ?_
          simp [St.set, St.new, hpc, hpf, hps, hk]
        | false =>
          (try (first | (with_reducible refine dops_go ?_; simp [nw_cells, ho1, ho2, ho3, hpf, hpc, hps, ru_cells, ru_ok, ru_fold, hk, hnf, new_m, set_m, new_nx']) | (with_reducible refine OKv_go ?_; simp [nw_cells, ho1, ho2, ho3, hpf, hpc, hps, ru_cells, ru_ok, ru_fold, hk, hnf, new_m, set_m, new_nx']) | (with_reducible refine OKr_go ?_; simp [nw_cells, ho1, ho2, ho3, hpf, hpc, hps, ru_cells, ru_ok, ru_fold, hk, hnf, new_m, set_m, new_nx']))); repeat' (first | refine awp_seq ?_ | refine awp_block ?_ | (refine awp_skip ?_; try simp) | (refine awp_exit ?_; try simp) | (refine awp_ret ?_; try simp) | (refine awp_reg ?_; simp [nw_cells, ho1, ho2, ho3, hpf, hpc, hps, ru_cells, ru_ok, ru_fold, hk, hnf, new_m, set_m, new_nx']) | (refine awp_drawT (fun _ => false) mixed (by decide +kernel) ?_; simp [nw_cells, ho1, ho2, ho3, hpf, hpc, hps, ru_cells, ru_ok, ru_fold, hk, hnf, new_m, set_m, new_nx']) | (refine guarded_split ?_ ?_ <;> (intro hg; simp only [hg]; simp [nw_cells, ho1, ho2, ho3, hpf, hpc, hps, ru_cells, ru_ok, ru_fold, hk, hnf, new_m, set_m, new_nx'])) | (apply awp_cond_t; focus (simp [nw_cells, ho1, ho2, ho3, hpf, hpc, hps, ru_cells, ru_ok, ru_fold, hk, hnf, new_m, set_m, new_nx']; done)) | (apply awp_cond_f; focus (simp [nw_cells, ho1, ho2, ho3, hpf, hpc, hps, ru_cells, ru_ok, ru_fold, hk, hnf, new_m, set_m, new_nx']; done)) | (refine awp_cond ?_; simp [nw_cells, ho1, ho2, ho3, hpf, hpc, hps, ru_cells, ru_ok, ru_fold, hk, hnf, new_m, set_m, new_nx']; refine ⟨?_, ?_⟩ <;> intro hc))
          refine retP_flat (.inr rfl) rfl (by repeat (first | exact Ext.refl _ | refine ext_new' ?_ | refine Ext.setF ?_ (by simp [new_nx', St.set, fresh_none]))) ?_
          simp [St.set, St.new, hpc, hpf, hps, hk]
end Go.Proofs.YtanimmdlgmkmkaaGreat.Av


/- Networks, plain laws: the program's next port is the document's on right topologies. -/
namespace Go.Proofs.YtanimmdlgmkmkaaGreat.Av
open Go
set_option linter.unusedSimpArgs false
set_option linter.unusedVariables false
set_option maxRecDepth 100000

def lookF (m : List (Pt × Pt)) (p : Pt) : Option Pt := (m.find? fun e => decide (p = e.1)).map (·.2)
theorem lookF_upd (m : List (Pt × Pt)) (k v p : Pt) : lookF (upd m k v) p = if p = k then some v else lookF m p := by
  unfold lookF upd
  rw [List.find?_append, List.find?_filter]
  by_cases h : p = k
  · have : m.find? (fun a => decide (decide (k ≠ a.1) = true ∧ decide (p = a.1) = true)) = none := by
      rw [List.find?_eq_none]
      intro x hx
      subst h
      simp
    rw [this, if_pos h]
    simp [h]
  · have : (fun a : Pt × Pt => decide (decide (k ≠ a.1) = true ∧ decide (p = a.1) = true)) = fun a => decide (p = a.1) := by
      funext a
      by_cases h2 : p = a.1
      · have : k ≠ a.1 := fun q => h (h2.trans q.symm)
        simp [h2, this]
      · simp [h2]
    rw [this, if_neg h]
    simp [h]
/-- The ports of links, one after the other. -/
def flatP : List Lk → List Pt
  | [] => []
  | l :: ls => l.a :: l.b :: flatP ls
theorem refNext_none {ls : List Lk} {p : Pt} (h : p ∉ flatP ls) : refNextL ls p = none := by
  induction ls with
  | nil => rfl
  | cons l ls ih =>
    simp only [flatP, List.mem_cons, not_or] at h
    simp only [refNextL]
    rw [if_neg (fun q => h.1 q.symm), if_neg (fun q => h.2.1 q.symm)]
    exact ih h.2.2
theorem look_fold (ls : List Lk) (m : List (Pt × Pt)) (p : Pt) (h : (flatP ls).Nodup) :
    lookF (ls.foldl (fun m l => upd (upd m l.a l.b) l.b l.a) m) p = (refNextL ls p).or (lookF m p) := by
  induction ls generalizing m with
  | nil => simp [refNextL]
  | cons l ls ih =>
    simp only [flatP, List.nodup_cons, List.mem_cons, not_or] at h
    obtain ⟨⟨hab, ha⟩, hb, hn⟩ := h
    rw [List.foldl_cons, ih _ hn, lookF_upd, lookF_upd]
    simp only [refNextL]
    by_cases h1 : l.a = p
    · subst h1
      rw [refNext_none ha, if_neg hab]
      simp
    · by_cases h2 : l.b = p
      · subst h2
        rw [refNext_none hb]
        simp [h1]
      · have h1' : ¬ p = l.a := fun q => h1 q.symm
        have h2' : ¬ p = l.b := fun q => h2 q.symm
        simp [h1, h2, h1', h2']
theorem nextM_eq (t : Tp) (p : Pt) (h : (flatP t.links).Nodup) : nextM t p = refNextL t.links p := by
  have := look_fold t.links [] p h
  unfold lookF at this
  unfold nextM joinM
  rw [this]
  simp
end Go.Proofs.YtanimmdlgmkmkaaGreat.Av


/- Networks, plain laws: the map is full exactly if no port is joined twice. -/
namespace Go.Proofs.YtanimmdlgmkmkaaGreat.Av
open Go
set_option linter.unusedSimpArgs false
set_option linter.unusedVariables false
set_option maxRecDepth 100000

theorem upd_len (m : List (Pt × Pt)) (k v : Pt) : (upd m k v).length ≤ m.length + 1 ∧ ((upd m k v).length = m.length + 1 ↔ k ∉ m.map (·.1)) := by
  have hle : (m.filter fun e => decide (k ≠ e.1)).length ≤ m.length := List.length_filter_le _ _
  have hl : (upd m k v).length = (m.filter fun e => decide (k ≠ e.1)).length + 1 := by simp [upd]
  refine ⟨by omega, ?_⟩
  rw [hl]
  constructor
  · intro h hk
    obtain ⟨e, he, rfl⟩ := List.mem_map.1 hk
    have := List.length_filter_lt_length_iff_exists (p := fun x : Pt × Pt => decide (e.1 ≠ x.1)) (l := m) |>.2 ⟨e, he, by simp⟩
    omega
  · intro h
    have : (m.filter fun e => decide (k ≠ e.1)) = m := by
      rw [List.filter_eq_self]
      intro x hx
      simp only [decide_eq_true_eq]
      intro q
      exact h (q ▸ List.mem_map.2 ⟨x, hx, rfl⟩)
    rw [this]
theorem upd_keys (m : List (Pt × Pt)) (k v x : Pt) : x ∈ (upd m k v).map (·.1) ↔ x = k ∨ x ∈ m.map (·.1) := by
  simp only [upd, List.map_append, List.mem_append, List.map_cons, List.map_nil, List.mem_singleton]
  constructor
  · rintro (h | h)
    · obtain ⟨e, he, rfl⟩ := List.mem_map.1 h
      exact .inr (List.mem_map.2 ⟨e, (List.mem_filter.1 he).1, rfl⟩)
    · exact .inl h
  · rintro (h | h)
    · exact .inr h
    · by_cases q : x = k
      · exact .inr q
      · obtain ⟨e, he, rfl⟩ := List.mem_map.1 h
        exact .inl (List.mem_map.2 ⟨e, List.mem_filter.2 ⟨he, by simpa using fun r => q r.symm⟩, rfl⟩)
theorem fold_len (ls : List Lk) (m : List (Pt × Pt)) :
    (ls.foldl (fun m l => upd (upd m l.a l.b) l.b l.a) m).length ≤ m.length + 2 * ls.length ∧
    ((ls.foldl (fun m l => upd (upd m l.a l.b) l.b l.a) m).length = m.length + 2 * ls.length ↔ (flatP ls).Nodup ∧ ∀ p ∈ flatP ls, p ∉ m.map (·.1)) := by
  induction ls generalizing m with
  | nil => simp [flatP]
  | cons l ls ih =>
    obtain ⟨i1, i2⟩ := ih (upd (upd m l.a l.b) l.b l.a)
    obtain ⟨a1, a2⟩ := upd_len m l.a l.b
    obtain ⟨b1, b2⟩ := upd_len (upd m l.a l.b) l.b l.a
    rw [List.foldl_cons, List.length_cons]
    refine ⟨by omega, ?_⟩
    simp only [upd_keys, not_or] at b2 i2
    simp only [flatP, List.nodup_cons, List.mem_cons, not_or]
    constructor
    · intro h
      have h1 := a2.1 (by omega)
      have h2 := b2.1 (by omega)
      have h3 := i2.1 (by omega)
      refine ⟨⟨⟨fun q => h2.1 q.symm, fun q => (h3.2 _ q).2.1 rfl⟩, fun q => (h3.2 _ q).1 rfl, h3.1⟩, ?_⟩
      rintro p (rfl | rfl | hp)
      · exact h1
      · exact h2.2
      · exact (h3.2 _ hp).2.2
    · rintro ⟨⟨⟨hab, ha⟩, hb, hn⟩, hd⟩
      have e1 := a2.2 (hd _ (.inl rfl))
      have e2 := b2.2 ⟨fun q => hab q.symm, hd _ (.inr (.inl rfl))⟩
      have e3 := i2.2 ⟨hn, fun p hp => ⟨fun q => hb (q ▸ hp), fun q => ha (q ▸ hp), hd _ (.inr (.inr hp))⟩⟩
      omega
theorem joinM_full (ls : List Lk) : (joinM ls).length = 2 * ls.length ↔ (flatP ls).Nodup := by
  have := (fold_len ls []).2
  simpa [joinM] using this
end Go.Proofs.YtanimmdlgmkmkaaGreat.Av


/- Networks, plain laws: on right networks the program's step is the document's. -/
namespace Go.Proofs.YtanimmdlgmkmkaaGreat.Av
open Go
set_option linter.unusedSimpArgs false
set_option linter.unusedVariables false
set_option maxRecDepth 100000

theorem allFrom_mem {l : List Ru} {last : Int} (h : allFrom last l = true) : ∀ r ∈ l, ruleB r = true := by
  induction l generalizing last with
  | nil => simp
  | cons x l ih =>
    simp only [allFrom, Bool.and_eq_true] at h
    intro r hr
    rcases List.mem_cons.1 hr with rfl | hr
    · exact h.1.1
    · exact ih h.2 r hr
theorem allB_kind {l : List Ru} (h : allB l = true) : ∀ r ∈ l, 0 ≤ r.kind ∧ r.kind ≤ 3 := by
  intro r hr
  have := allFrom_mem (Bool.and_eq_true _ _ ▸ h : _ ∧ _).1 r hr
  simp only [ruleB, Bool.and_eq_true, decide_eq_true_eq] at this
  exact this.1.1.1.2
theorem any_congr' {l : List Ru} {p q : Ru → Bool} (h : ∀ r ∈ l, p r = q r) : l.any p = l.any q := by
  induction l with
  | nil => rfl
  | cons x l ih =>
    rw [List.any_cons, List.any_cons, h x (by simp), ih fun r hr => h r (List.mem_cons_of_mem _ hr)]
theorem filter_acl {l : List Ru} (h : allB l = true) (d a : Int) : l.filter (refP d a true) = l.filter (aclP d a) := List.filter_congr fun r hr => refP_acl (allB_kind h r hr) d a
theorem filter_fwd {l : List Ru} (h : allB l = true) (d a : Int) : l.filter (refP d a false) = l.filter (fwdP d a) := List.filter_congr fun r hr => refP_fwd (allB_kind h r hr) d a
theorem any_acl {l : List Ru} (h : allB l = true) (d a : Int) : l.any (refP d a true) = l.any (aclP d a) := any_congr' fun r hr => refP_acl (allB_kind h r hr) d a
theorem any_fwd {l : List Ru} (h : allB l = true) (d a : Int) : l.any (refP d a false) = l.any (fwdP d a) := any_congr' fun r hr => refP_fwd (allB_kind h r hr) d a
theorem rightT_nodup {t : Tp} (h : rightT t = true) : (flatP t.links).Nodup := by
  simp only [rightT, Bool.and_eq_true, decide_eq_true_eq] at h
  exact (joinM_full _).1 h.2.2.2.2.2
theorem step_eq {n : Nw} (h : rightN n = true) (d a : Int) : refStepF n d a = stepF n d a := by
  simp only [rightN, Bool.and_eq_true] at h
  obtain ⟨ht, hr, -⟩ := h
  unfold refStepF stepF refDeniesB deniesB matchB matchR
  rw [filter_acl hr, filter_fwd hr, any_acl hr, any_fwd hr, nextM_eq _ _ (rightT_nodup ht)]
end Go.Proofs.YtanimmdlgmkmkaaGreat.Av


/- Queries, the plain law: addresses between the same cuts fare alike; what a verdict tells. -/
namespace Go.Proofs.YtanimmdlgmkmkaaGreat.Av
set_option linter.unusedSimpArgs false
set_option linter.unusedVariables false

/-- Two addresses lie on the same side of all cuts. -/
def SameSide (L : List Rg) (a b : Int) : Prop := ∀ x ∈ cutsL L, (x ≤ a ↔ x ≤ b)
theorem seek_some {n m : Nw} {q : Qy} {d : Int} {v : Vd} : ∀ {P : List Rg}, seek n m q d P = some v → ∃ p ∈ P, v = ⟨false, d, p.lo, (traceR n d p.lo).1⟩ ∧ breaksQ q (traceR n d p.lo).1 (traceR m d p.lo).1 = true
  | [], h => by simp [seek] at h
  | r :: rs, h => by
    simp only [seek] at h
    split at h
    · rename_i hb
      simp only [Option.some.injEq] at h
      exact ⟨r, by simp, h.symm, hb⟩
    · obtain ⟨p, hp, h1, h2⟩ := seek_some h
      exact ⟨p, by simp [hp], h1, h2⟩
theorem seeks_some {n m : Nw} {q : Qy} {P : List Rg} {v : Vd} : ∀ {S : List Int}, seeks n m q P S = some v → ∃ d ∈ S, ∃ p ∈ P, v = ⟨false, d, p.lo, (traceR n d p.lo).1⟩ ∧ breaksQ q (traceR n d p.lo).1 (traceR m d p.lo).1 = true
  | [], h => by simp [seeks] at h
  | d :: ds, h => by
    simp only [seeks] at h
    cases hs : seek n m q d P with
    | none =>
      rw [hs] at h
      obtain ⟨d', hd, p, hp, h1, h2⟩ := seeks_some h
      exact ⟨d', by simp [hd], p, hp, h1, h2⟩
    | some w =>
      rw [hs] at h
      simp only [Option.some.injEq] at h
      subst h
      obtain ⟨p, hp, h1, h2⟩ := seek_some hs
      exact ⟨d, by simp, p, hp, h1, h2⟩
/-! ### Right networks -/
theorem right_rules {n : Nw} (h : rightN n = true) : (∀ r ∈ n.rules, ruleB r = true) ∧ n.rules.length ≤ 40 := by
  unfold rightN at h
  simp only [Bool.and_eq_true] at h
  have h2 := h.2.1
  unfold allB at h2
  simp only [Bool.and_eq_true, decide_eq_true_eq] at h2
  exact ⟨allFrom_mem h2.1, h2.2⟩
theorem rule_le {r : Ru} (h : ruleB r = true) : r.r.lo ≤ r.r.hi := by
  unfold ruleB at h
  simp only [Bool.and_eq_true, decide_eq_true_eq] at h
  exact h.2
theorem rgs_le {l : List Nw} (h : ∀ n ∈ l, rightN n = true) : ∀ r ∈ rgsOf l, r.lo ≤ r.hi := by
  intro r hr
  unfold rgsOf at hr
  obtain ⟨n, hn, hr⟩ := List.mem_flatMap.1 hr
  obtain ⟨x, hx, rfl⟩ := List.mem_map.1 hr
  exact rule_le ((right_rules (h n hn)).1 x hx)
end Go.Proofs.YtanimmdlgmkmkaaGreat.Av


/- Networks: right topologies, by the document; the first two stretches. -/
namespace Go.Proofs.YtanimmdlgmkmkaaGreat.Av
open Go
set_option linter.unusedSimpArgs false
set_option linter.unusedVariables false
set_option maxRecDepth 100000
set_option pp.maxSteps 600

/-- The document's right topologies: few ports, all links' ports there, none joined twice. -/
def nodupB : List Pt → Bool
  | [] => true
  | p :: l => !l.contains p && nodupB l
theorem nodupB_iff (l : List Pt) : nodupB l = true ↔ l.Nodup := by
  induction l with
  | nil => simp [nodupB]
  | cons p l ih => simp [nodupB, ih]
def refRightT (t : Tp) : Bool := !decide (t.ports.length < 1) && (!decide (8 < t.ports.length) && (!decide (16 < t.links.length) && (t.ports.all (fun n => decide (1 ≤ n) && decide (n ≤ 4)) && ((flatP t.links).all (hasB t) && nodupB (flatP t.links)))))
theorem linkBad_any {t : Tp} (ls : List Lk) (hn : (flatP ls).Nodup) : ls.any (linkBad t) = !(flatP ls).all (hasB t) := by
  induction ls with
  | nil => rfl
  | cons l ls ih =>
    simp only [flatP, List.nodup_cons, List.mem_cons, not_or] at hn
    rw [List.any_cons, ih hn.2.2]
    simp only [flatP, List.all_cons, linkBad]
    have hab : decide (l.a = l.b) = false := by simpa using hn.1.1
    rw [hab]
    cases hasB t l.a <;> cases hasB t l.b <;> simp
theorem rightT_eq (t : Tp) : rightT t = refRightT t := by
  have h1 : decide (t.ports.length = 0) = decide (t.ports.length < 1) := by
    rw [Bool.eq_iff_iff]; simp
  have h2 : (!portsBad t) = t.ports.all (fun n => decide (1 ≤ n) && decide (n ≤ 4)) := by
    unfold portsBad
    induction t.ports with
    | nil => rfl
    | cons n l ih =>
      rw [List.any_cons, List.all_cons, ← ih, Bool.not_or]
      congr 1
      rw [Bool.eq_iff_iff]; simp
  unfold rightT refRightT
  rw [h1, h2]
  by_cases hn : (flatP t.links).Nodup
  · rw [decide_eq_true ((joinM_full _).2 hn), (nodupB_iff _).2 hn, linkBad_any _ hn, Bool.not_not]
  · have e1 : nodupB (flatP t.links) = false := by
      cases h : nodupB (flatP t.links) with
      | false => rfl
      | true => exact absurd ((nodupB_iff _).1 h) hn
    rw [decide_eq_false (fun h => hn ((joinM_full _).1 h)), e1]
    simp
end Go.Proofs.YtanimmdlgmkmkaaGreat.Av


/- Networks: ref topo.Right (begun). -/
namespace Go.Proofs.YtanimmdlgmkmkaaGreat.Av
open Go
set_option linter.unusedSimpArgs false
set_option linter.unusedVariables false
set_option maxRecDepth 100000
set_option maxHeartbeats 2000000
set_option pp.maxSteps 600

theorem refRight_calls (t : Tp) (f : Fl) (hl : t.ports.length < 2 ^ 60) (hl2 : t.links.length < 2 ^ 42) : PCalls Tryz.prog 122 [tpAV t f] (.raw (.bool (refRightT t))) := by
  refine pbody Tryz.func122 rfl (N := 96) rfl rfl (by simp) (by simp [noIds]) fun σ => ?_
  repeat (refine awp_seq ?_)
  refine awp_reg ?_
  have ho1 : cellOK (intsAV t.ports f.p) = true := rfl
  have ho2 : cellOK (linksAV t.links f.l) = true := rfl
  simp only [cellOK] at ho1 ho2
  simp [tp_cells, ho1, ho2]
  refine awp_freeze ⟨1, σ.nx 1, 2⟩ ?_
  generalize hτ : St.del _ _ = τ
  generalize hA : (fun t => giveUp _ _ _) = A
  have a1 : A 1 = .pp [intsAV t.ports f.p, linksAV t.links f.l] 0 := by rw [← hA, ← hτ]; simp [giveUp, St.new, St.del, tp_cells]
  have hE : Ext σ τ := by
    rw [← hτ]
    refine ⟨fun i o h => ?_, fun s => ?_⟩
    · rw [del_other (fun e => by rw [e, fresh_none] at h; cases h)]
      exact new_up _ _ h
    · exact St.new_le σ 1 2 (.buf [tpAV t f]) s
  clear hτ hA
  by_cases q1 : t.ports.length < 1
  · have q1' : (t.ports.length : Int) < 1 := by omega
    (try (first | (with_reducible refine dops_go ?_; simp [intsAV, linksAV, a1, hE, q1, q1']) | (with_reducible refine OKv_go ?_; simp [intsAV, linksAV, a1, hE, q1, q1']) | (with_reducible refine OKr_go ?_; simp [intsAV, linksAV, a1, hE, q1, q1']))); repeat' (first | refine awp_seq ?_ | refine awp_block ?_ | (refine awp_skip ?_; try simp) | (refine awp_exit ?_; try simp) | (refine awp_ret ?_; try simp) | (refine retP_same (by simp) ?_; simp) | (refine retP_flat (by simp) (by simp) (by simp (maxDischargeDepth := 30) [intsAV, linksAV, a1, hE, q1, q1']) ?_; simp) | (refine awp_reg ?_; simp [intsAV, linksAV, a1, hE, q1, q1']) | (refine awp_drawT (fun _ => false) mixed (by decide +kernel) ?_; simp [intsAV, linksAV, a1, hE, q1, q1']) | (refine guarded_split ?_ ?_ <;> (intro hg; simp only [hg]; simp [intsAV, linksAV, a1, hE, q1, q1'])) | (apply awp_cond_t; focus (simp [intsAV, linksAV, a1, hE, q1, q1']; done)) | (apply awp_cond_f; focus (simp [intsAV, linksAV, a1, hE, q1, q1']; done)) | (refine awp_cond ?_; simp [intsAV, linksAV, a1, hE, q1, q1']; refine ⟨?_, ?_⟩ <;> intro hc))
    all_goals simp [refRightT, q1]
  have q1' : ¬ (t.ports.length : Int) < 1 := by omega
  by_cases q2 : 8 < t.ports.length
  · have q2' : (8 : Int) < (t.ports.length : Int) := by omega
    (try (first | (with_reducible refine dops_go ?_; simp [intsAV, linksAV, a1, hE, q1, q1', q2, q2']) | (with_reducible refine OKv_go ?_; simp [intsAV, linksAV, a1, hE, q1, q1', q2, q2']) | (with_reducible refine OKr_go ?_; simp [intsAV, linksAV, a1, hE, q1, q1', q2, q2']))); repeat' (first | refine awp_seq ?_ | refine awp_block ?_ | (refine awp_skip ?_; try simp) | (refine awp_exit ?_; try simp) | (refine awp_ret ?_; try simp) | (refine retP_same (by simp) ?_; simp) | (refine retP_flat (by simp) (by simp) (by simp (maxDischargeDepth := 30) [intsAV, linksAV, a1, hE, q1, q1', q2, q2']) ?_; simp) | (refine awp_reg ?_; simp [intsAV, linksAV, a1, hE, q1, q1', q2, q2']) | (refine awp_drawT (fun _ => false) mixed (by decide +kernel) ?_; simp [intsAV, linksAV, a1, hE, q1, q1', q2, q2']) | (refine guarded_split ?_ ?_ <;> (intro hg; simp only [hg]; simp [intsAV, linksAV, a1, hE, q1, q1', q2, q2'])) | (apply awp_cond_t; focus (simp [intsAV, linksAV, a1, hE, q1, q1', q2, q2']; done)) | (apply awp_cond_f; focus (simp [intsAV, linksAV, a1, hE, q1, q1', q2, q2']; done)) | (refine awp_cond ?_; simp [intsAV, linksAV, a1, hE, q1, q1', q2, q2']; refine ⟨?_, ?_⟩ <;> intro hc))
    all_goals simp [refRightT, q2]
  have q2' : ¬ (8 : Int) < (t.ports.length : Int) := by omega
  by_cases q3 : 16 < t.links.length
  · have q3' : (16 : Int) < (t.links.length : Int) := by omega
    (try (first | (with_reducible refine dops_go ?_; simp [intsAV, linksAV, a1, hE, q1, q1', q2, q2', q3, q3']) | (with_reducible refine OKv_go ?_; simp [intsAV, linksAV, a1, hE, q1, q1', q2, q2', q3, q3']) | (with_reducible refine OKr_go ?_; simp [intsAV, linksAV, a1, hE, q1, q1', q2, q2', q3, q3']))); repeat' (first | refine awp_seq ?_ | refine awp_block ?_ | (refine awp_skip ?_; try simp) | (refine awp_exit ?_; try simp) | (refine awp_ret ?_; try simp) | (refine retP_same (by simp) ?_; simp) | (refine retP_flat (by simp) (by simp) (by simp (maxDischargeDepth := 30) [intsAV, linksAV, a1, hE, q1, q1', q2, q2', q3, q3']) ?_; simp) | (refine awp_reg ?_; simp [intsAV, linksAV, a1, hE, q1, q1', q2, q2', q3, q3']) | (refine awp_drawT (fun _ => false) mixed (by decide +kernel) ?_; simp [intsAV, linksAV, a1, hE, q1, q1', q2, q2', q3, q3']) | (refine guarded_split ?_ ?_ <;> (intro hg; simp only [hg]; simp [intsAV, linksAV, a1, hE, q1, q1', q2, q2', q3, q3'])) | (apply awp_cond_t; focus (simp [intsAV, linksAV, a1, hE, q1, q1', q2, q2', q3, q3']; done)) | (apply awp_cond_f; focus (simp [intsAV, linksAV, a1, hE, q1, q1', q2, q2', q3, q3']; done)) | (refine awp_cond ?_; simp [intsAV, linksAV, a1, hE, q1, q1', q2, q2', q3, q3']; refine ⟨?_, ?_⟩ <;> intro hc))
    all_goals simp [refRightT, q3]
  have q3' : ¬ (16 : Int) < (t.links.length : Int) := by omega
  (try (first | (with_reducible refine dops_go ?_; simp [intsAV, linksAV, a1, hE, q1, q1', q2, q2', q3, q3']) | (with_reducible refine OKv_go ?_; simp [intsAV, linksAV, a1, hE, q1, q1', q2, q2', q3, q3']) | (with_reducible refine OKr_go ?_; simp [intsAV, linksAV, a1, hE, q1, q1', q2, q2', q3, q3']))); repeat' (first | refine awp_seq ?_ | refine awp_block ?_ | (refine awp_skip ?_; try simp) | (refine awp_exit ?_; try simp) | (refine awp_ret ?_; try simp) | (refine retP_same (by simp) ?_; simp) | (refine retP_flat (by simp) (by simp) (by simp (maxDischargeDepth := 30) [intsAV, linksAV, a1, hE, q1, q1', q2, q2', q3, q3']) ?_; simp) | (refine awp_reg ?_; simp [intsAV, linksAV, a1, hE, q1, q1', q2, q2', q3, q3']) | (refine awp_drawT (fun _ => false) mixed (by decide +kernel) ?_; simp [intsAV, linksAV, a1, hE, q1, q1', q2, q2', q3, q3']) | (refine guarded_split ?_ ?_ <;> (intro hg; simp only [hg]; simp [intsAV, linksAV, a1, hE, q1, q1', q2, q2', q3, q3'])) | (apply awp_cond_t; focus (simp [intsAV, linksAV, a1, hE, q1, q1', q2, q2', q3, q3']; done)) | (apply awp_cond_f; focus (simp [intsAV, linksAV, a1, hE, q1, q1', q2, q2', q3, q3']; done)) | (refine awp_cond ?_; simp [intsAV, linksAV, a1, hE, q1, q1', q2, q2', q3, q3']; refine ⟨?_, ?_⟩ <;> intro hc))
  refine awp_loopH (fun n B ρ => Ext σ ρ ∧ B 1 = .pp [intsAV t.ports f.p, linksAV t.links f.l] 0 ∧ ∃ i : Nat, B 3 = .raw (.int .i64 i) ∧ i ≤ t.ports.length ∧ n = t.ports.length - i ∧ (t.ports.take i).all (fun n => decide (1 ≤ n) && decide (n ≤ 4)) = true) t.ports.length ?_ ?_
  · exact ⟨hE, by simp [a1], 0, by simp, by omega, by omega, by simp⟩
  clear hE a1
  rintro n B ρ ⟨hE, a1, i, a3, hi, rfl, hall⟩ I1 hI1
  by_cases hlt : i < t.ports.length
  · have hx : t.ports[i]? = some t.ports[i] := List.getElem?_eq_getElem hlt
    have w1 : IntKind.i64.wrap ((i : Int) + 1) = ((i + 1 : Nat) : Int) := by rw [wrap64 (by omega) (by omega)]; omega
    by_cases p1 : t.ports[i] < 1
    · have hf : t.ports.all (fun n => decide (1 ≤ n) && decide (n ≤ 4)) = false := by
        rw [List.all_eq_false]
        exact ⟨_, List.getElem_mem hlt, by simp; omega⟩
      (try (first | (with_reducible refine dops_go ?_; simp [intsAV, linksAV, iAV, a1, a3, hE, hlt, hx, w1, p1]) | (with_reducible refine OKv_go ?_; simp [intsAV, linksAV, iAV, a1, a3, hE, hlt, hx, w1, p1]) | (with_reducible refine OKr_go ?_; simp [intsAV, linksAV, iAV, a1, a3, hE, hlt, hx, w1, p1]))); repeat' (first | refine awp_seq ?_ | refine awp_block ?_ | (refine awp_skip ?_; try simp) | (refine awp_exit ?_; try simp) | (refine awp_ret ?_; try simp) | (refine retP_same (by simp) ?_; simp) | (refine retP_flat (by simp) (by simp) (by simp (maxDischargeDepth := 30) [intsAV, linksAV, iAV, a1, a3, hE, hlt, hx, w1, p1]) ?_; simp) | (refine awp_reg ?_; simp [intsAV, linksAV, iAV, a1, a3, hE, hlt, hx, w1, p1]) | (refine awp_drawT (fun _ => false) mixed (by decide +kernel) ?_; simp [intsAV, linksAV, iAV, a1, a3, hE, hlt, hx, w1, p1]) | (refine guarded_split ?_ ?_ <;> (intro hg; simp only [hg]; simp [intsAV, linksAV, iAV, a1, a3, hE, hlt, hx, w1, p1])) | (apply awp_cond_t; focus (simp [intsAV, linksAV, iAV, a1, a3, hE, hlt, hx, w1, p1]; done)) | (apply awp_cond_f; focus (simp [intsAV, linksAV, iAV, a1, a3, hE, hlt, hx, w1, p1]; done)) | (refine awp_cond ?_; simp [intsAV, linksAV, iAV, a1, a3, hE, hlt, hx, w1, p1]; refine ⟨?_, ?_⟩ <;> intro hc))
      all_goals simp [refRightT, hf]
    · by_cases p2 : 4 < t.ports[i]
      · have hf : t.ports.all (fun n => decide (1 ≤ n) && decide (n ≤ 4)) = false := by
          rw [List.all_eq_false]
          exact ⟨_, List.getElem_mem hlt, by simp; omega⟩
        (try (first | (with_reducible refine dops_go ?_; simp [intsAV, linksAV, iAV, a1, a3, hE, hlt, hx, w1, p1, p2]) | (with_reducible refine OKv_go ?_; simp [intsAV, linksAV, iAV, a1, a3, hE, hlt, hx, w1, p1, p2]) | (with_reducible refine OKr_go ?_; simp [intsAV, linksAV, iAV, a1, a3, hE, hlt, hx, w1, p1, p2]))); repeat' (first | refine awp_seq ?_ | refine awp_block ?_ | (refine awp_skip ?_; try simp) | (refine awp_exit ?_; try simp) | (refine awp_ret ?_; try simp) | (refine retP_same (by simp) ?_; simp) | (refine retP_flat (by simp) (by simp) (by simp (maxDischargeDepth := 30) [intsAV, linksAV, iAV, a1, a3, hE, hlt, hx, w1, p1, p2]) ?_; simp) | (refine awp_reg ?_; simp [intsAV, linksAV, iAV, a1, a3, hE, hlt, hx, w1, p1, p2]) | (refine awp_drawT (fun _ => false) mixed (by decide +kernel) ?_; simp [intsAV, linksAV, iAV, a1, a3, hE, hlt, hx, w1, p1, p2]) | (refine guarded_split ?_ ?_ <;> (intro hg; simp only [hg]; simp [intsAV, linksAV, iAV, a1, a3, hE, hlt, hx, w1, p1, p2])) | (apply awp_cond_t; focus (simp [intsAV, linksAV, iAV, a1, a3, hE, hlt, hx, w1, p1, p2]; done)) | (apply awp_cond_f; focus (simp [intsAV, linksAV, iAV, a1, a3, hE, hlt, hx, w1, p1, p2]; done)) | (refine awp_cond ?_; simp [intsAV, linksAV, iAV, a1, a3, hE, hlt, hx, w1, p1, p2]; refine ⟨?_, ?_⟩ <;> intro hc))
        all_goals simp [refRightT, hf]
      · have hp : (decide (1 ≤ t.ports[i]) && decide (t.ports[i] ≤ 4)) = true := by
          rw [Bool.and_eq_true, decide_eq_true_eq, decide_eq_true_eq]; exact ⟨by omega, by omega⟩
        have hall' : (t.ports.take (i + 1)).all (fun n => decide (1 ≤ n) && decide (n ≤ 4)) = true := by
          rw [List.take_add_one, hx, List.all_append, hall, Option.toList_some, List.all_cons, hp]; rfl
        (try (first | (with_reducible refine dops_go ?_; simp [intsAV, linksAV, iAV, a1, a3, hE, hlt, hx, w1, p1, p2]) | (with_reducible refine OKv_go ?_; simp [intsAV, linksAV, iAV, a1, a3, hE, hlt, hx, w1, p1, p2]) | (with_reducible refine OKr_go ?_; simp [intsAV, linksAV, iAV, a1, a3, hE, hlt, hx, w1, p1, p2]))); repeat' (first | refine awp_seq ?_ | refine awp_block ?_ | (refine awp_skip ?_; try simp) | (refine awp_exit ?_; try simp) | (refine awp_ret ?_; try simp) | (refine retP_same (by simp) ?_; simp) | (refine retP_flat (by simp) (by simp) (by simp (maxDischargeDepth := 30) [intsAV, linksAV, iAV, a1, a3, hE, hlt, hx, w1, p1, p2]) ?_; simp) | (refine awp_reg ?_; simp [intsAV, linksAV, iAV, a1, a3, hE, hlt, hx, w1, p1, p2]) | (refine awp_drawT (fun _ => false) mixed (by decide +kernel) ?_; simp [intsAV, linksAV, iAV, a1, a3, hE, hlt, hx, w1, p1, p2]) | (refine guarded_split ?_ ?_ <;> (intro hg; simp only [hg]; simp [intsAV, linksAV, iAV, a1, a3, hE, hlt, hx, w1, p1, p2])) | (apply awp_cond_t; focus (simp [intsAV, linksAV, iAV, a1, a3, hE, hlt, hx, w1, p1, p2]; done)) | (apply awp_cond_f; focus (simp [intsAV, linksAV, iAV, a1, a3, hE, hlt, hx, w1, p1, p2]; done)) | (refine awp_cond ?_; simp [intsAV, linksAV, iAV, a1, a3, hE, hlt, hx, w1, p1, p2]; refine ⟨?_, ?_⟩ <;> intro hc))
        exact hI1 (t.ports.length - (i + 1)) _ _ (by omega) ⟨hE, by simp [a1, intsAV, linksAV], i + 1, by simp, by omega, rfl, hall'⟩
  · have : i = t.ports.length := by omega
    subst this
    rw [List.take_length] at hall
    (try (first | (with_reducible refine dops_go ?_; simp [intsAV, linksAV, iAV, a1, a3, hE]) | (with_reducible refine OKv_go ?_; simp [intsAV, linksAV, iAV, a1, a3, hE]) | (with_reducible refine OKr_go ?_; simp [intsAV, linksAV, iAV, a1, a3, hE]))); repeat' (first | refine awp_seq ?_ | refine awp_block ?_ | (refine awp_skip ?_; try simp) | (refine awp_exit ?_; try simp) | (refine awp_ret ?_; try simp) | (refine retP_same (by simp) ?_; simp) | (refine retP_flat (by simp) (by simp) (by simp (maxDischargeDepth := 30) [intsAV, linksAV, iAV, a1, a3, hE]) ?_; simp) | (refine awp_reg ?_; simp [intsAV, linksAV, iAV, a1, a3, hE]) | (refine awp_drawT (fun _ => false) mixed (by decide +kernel) ?_; simp [intsAV, linksAV, iAV, a1, a3, hE]) | (refine guarded_split ?_ ?_ <;> (intro hg; simp only [hg]; simp [intsAV, linksAV, iAV, a1, a3, hE])) | (apply awp_cond_t; focus (simp [intsAV, linksAV, iAV, a1, a3, hE]; done)) | (apply awp_cond_f; focus (simp [intsAV, linksAV, iAV, a1, a3, hE]; done)) | (refine awp_cond ?_; simp [intsAV, linksAV, iAV, a1, a3, hE]; refine ⟨?_, ?_⟩ <;> intro hc))
    refine awp_loopH (fun n B ρ => Ext σ ρ ∧ B 1 = .pp [intsAV t.ports f.p, linksAV t.links f.l] 0 ∧ ∃ (k : Nat) (v : AV), B 4 = v ∧ OwnL σ ρ 2 v ((flatP (t.links.take k)).map ptAV) ∧ B 5 = .raw (.int .i64 k) ∧ k ≤ t.links.length ∧ n = t.links.length - k) t.links.length ?_ ?_
    · exact ⟨hE, by simp [a1, intsAV, linksAV], 0, _, rfl, .inl ⟨by simp [flatP], by simp⟩, by simp, by omega, by omega⟩
    clear hE a1 a3 hI1 I1
    rintro n B ρ ⟨hE, a1, k, v, a4, hO, a5, hk, rfl⟩ I1 hI1
    have hfl : ∀ L : List Lk, (flatP L).length = 2 * L.length := by
      intro L; induction L with
      | nil => rfl
      | cons l L ih => simp only [flatP, List.length_cons, ih]; omega
    by_cases hlt : k < t.links.length
    · have hx : t.links[k]? = some t.links[k] := List.getElem?_eq_getElem hlt
      have w1 : IntKind.i64.wrap ((k : Int) + 1) = ((k + 1 : Nat) : Int) := by rw [wrap64 (by omega) (by omega)]; omega
      have hfp : flatP (t.links.take (k + 1)) = flatP (t.links.take k) ++ [t.links[k].a, t.links[k].b] := by
        rw [List.take_add_one, hx]
        generalize t.links.take k = L
        induction L with
        | nil => rfl
        | cons l L ih => simp only [List.cons_append, flatP, ih]
      have fa : AV.agg [.raw (.int .i64 t.links[k].a.dev), .raw (.int .i64 t.links[k].a.port)] = ptAV t.links[k].a := rfl
      have fb : AV.agg [.raw (.int .i64 t.links[k].b.dev), .raw (.int .i64 t.links[k].b.port)] = ptAV t.links[k].b := rfl
      have hpc : ∀ q : Pt, (ptAV q).cells = [.raw (.int .i64 q.dev), .raw (.int .i64 q.port)] := fun q => rfl
      (try (first | (with_reducible refine dops_go ?_; simp [linksAV, intsAV, a1, a4, a5, hlt, hx, lk_cells', fa, fb, hpc, w1, -opAppend]) | (with_reducible refine OKv_go ?_; simp [linksAV, intsAV, a1, a4, a5, hlt, hx, lk_cells', fa, fb, hpc, w1, -opAppend]) | (with_reducible refine OKr_go ?_; simp [linksAV, intsAV, a1, a4, a5, hlt, hx, lk_cells', fa, fb, hpc, w1, -opAppend]))); repeat' (first | refine awp_seq ?_ | refine awp_block ?_ | (refine awp_skip ?_; try simp) | (refine awp_exit ?_; try simp) | (refine awp_ret ?_; try simp) | (refine retP_same (by simp) ?_; simp) | (refine retP_flat (by simp) (by simp) (by simp (maxDischargeDepth := 30) [linksAV, intsAV, a1, a4, a5, hlt, hx, lk_cells', fa, fb, hpc, w1, -opAppend]) ?_; simp) | (refine awp_reg ?_; simp [linksAV, intsAV, a1, a4, a5, hlt, hx, lk_cells', fa, fb, hpc, w1, -opAppend]) | (refine awp_drawT (fun _ => false) mixed (by decide +kernel) ?_; simp [linksAV, intsAV, a1, a4, a5, hlt, hx, lk_cells', fa, fb, hpc, w1, -opAppend]) | (refine guarded_split ?_ ?_ <;> (intro hg; simp only [hg]; simp [linksAV, intsAV, a1, a4, a5, hlt, hx, lk_cells', fa, fb, hpc, w1, -opAppend])) | (apply awp_cond_t; focus (simp [linksAV, intsAV, a1, a4, a5, hlt, hx, lk_cells', fa, fb, hpc, w1, -opAppend]; done)) | (apply awp_cond_f; focus (simp [linksAV, intsAV, a1, a4, a5, hlt, hx, lk_cells', fa, fb, hpc, w1, -opAppend]; done)) | (refine awp_cond ?_; simp [linksAV, intsAV, a1, a4, a5, hlt, hx, lk_cells', fa, fb, hpc, w1, -opAppend]; refine ⟨?_, ?_⟩ <;> intro hc))
      refine okr_append slt205 (hO.ext (Ext.new _ _ _ _)) (hE.trans (Ext.new _ _ _ _)) (ys := [ptAV t.links[k].a, ptAV t.links[k].b]) (by simp) (.inr rfl) (by simp [hpc]) (by simp [hfl, Nat.min_eq_left hk]; omega) ?_
      intro v' τ' hO' hE' _ _
      (try (first | (with_reducible refine dops_go ?_; simp [linksAV, intsAV, a1, a4, a5, w1]) | (with_reducible refine OKv_go ?_; simp [linksAV, intsAV, a1, a4, a5, w1]) | (with_reducible refine OKr_go ?_; simp [linksAV, intsAV, a1, a4, a5, w1]))); repeat' (first | refine awp_seq ?_ | refine awp_block ?_ | (refine awp_skip ?_; try simp) | (refine awp_exit ?_; try simp) | (refine awp_ret ?_; try simp) | (refine retP_same (by simp) ?_; simp) | (refine retP_flat (by simp) (by simp) (by simp (maxDischargeDepth := 30) [linksAV, intsAV, a1, a4, a5, w1]) ?_; simp) | (refine awp_reg ?_; simp [linksAV, intsAV, a1, a4, a5, w1]) | (refine awp_drawT (fun _ => false) mixed (by decide +kernel) ?_; simp [linksAV, intsAV, a1, a4, a5, w1]) | (refine guarded_split ?_ ?_ <;> (intro hg; simp only [hg]; simp [linksAV, intsAV, a1, a4, a5, w1])) | (apply awp_cond_t; focus (simp [linksAV, intsAV, a1, a4, a5, w1]; done)) | (apply awp_cond_f; focus (simp [linksAV, intsAV, a1, a4, a5, w1]; done)) | (refine awp_cond ?_; simp [linksAV, intsAV, a1, a4, a5, w1]; refine ⟨?_, ?_⟩ <;> intro hc))
      exact hI1 (t.links.length - (k + 1)) _ _ (by omega) ⟨hE', by simp [a1, intsAV, linksAV], k + 1, v', by simp, by rw [hfp]; simpa using hO', by simp, by omega, rfl⟩
    · have : k = t.links.length := by omega
      subst this
      rw [List.take_length] at hO
      have hFl := hfl t.links
      obtain ⟨F, hF⟩ : ∃ F, flatP t.links = F := ⟨_, rfl⟩
      have hres : refRightT t = (F.all (hasB t) && nodupB F) := by
        unfold refRightT
        rw [hF, hall, decide_eq_false q1, decide_eq_false q2, decide_eq_false q3]; rfl
      rw [hres]
      rw [hF] at hO hFl
      clear hres hI1 hall hfl
      have hpc : ∀ q : Pt, (ptAV q).cells = [.raw (.int .i64 q.dev), .raw (.int .i64 q.port)] := fun q => rfl
      have hpf : ∀ q : Pt, AV.agg [.raw (.int .i64 q.dev), .raw (.int .i64 q.port)] = ptAV q := fun q => rfl
      have htf : AV.agg [AV.sl 1 (t.ports.map iAV) f.p, AV.sl 4 (t.links.map lkAV) f.l] = tpAV t f := rfl
      have hbin : ∀ x y : Pt, opBin Tryz.prog .eql 41 (ptAV x) (ptAV y) = some (.raw (.bool (decide (x = y)))) := fun x y => by
        have e1 : opBin Tryz.prog .eql 41 (ptAV x) (ptAV y) = if Tryz.prog.eqGuardType Tryz.prog.depth 41 = false then (structEq Tryz.prog 4 41 (ptAV x) (ptAV y)).bind fun b => (nilBin .eql b).map .raw else none := rfl
        have := key_eq x y
        rw [e1, if_pos eqg41]
        rw [show structEq Tryz.prog 4 41 (ptAV x) (ptAV y) = some (decide (x = y)) from this]
        rfl
      (try (first | (with_reducible refine dops_go ?_; simp [linksAV, intsAV, a1, a4, a5]) | (with_reducible refine OKv_go ?_; simp [linksAV, intsAV, a1, a4, a5]) | (with_reducible refine OKr_go ?_; simp [linksAV, intsAV, a1, a4, a5]))); repeat' (first | refine awp_seq ?_ | refine awp_block ?_ | (refine awp_skip ?_; try simp) | (refine awp_exit ?_; try simp) | (refine awp_ret ?_; try simp) | (refine retP_same (by simp) ?_; simp) | (refine retP_flat (by simp) (by simp) (by simp (maxDischargeDepth := 30) [linksAV, intsAV, a1, a4, a5]) ?_; simp) | (refine awp_reg ?_; simp [linksAV, intsAV, a1, a4, a5]) | (refine awp_drawT (fun _ => false) mixed (by decide +kernel) ?_; simp [linksAV, intsAV, a1, a4, a5]) | (refine guarded_split ?_ ?_ <;> (intro hg; simp only [hg]; simp [linksAV, intsAV, a1, a4, a5])) | (apply awp_cond_t; focus (simp [linksAV, intsAV, a1, a4, a5]; done)) | (apply awp_cond_f; focus (simp [linksAV, intsAV, a1, a4, a5]; done)) | (refine awp_cond ?_; simp [linksAV, intsAV, a1, a4, a5]; refine ⟨?_, ?_⟩ <;> intro hc))
      refine awp_settle 4 (by simpa [a4] using hO) hE ?_
      intro A' τ' hE' e4 hf _ _ _ _
      have b1 : A' 1 = .pp [intsAV t.ports f.p, linksAV t.links f.l] 0 := by rw [hf 1 (by simp) (by simp [a1])]; simp [a1]
      have b6 : A' 6 = .raw (.int .i64 0) := by rw [hf 6 (by simp) (by simp)]; simp
      clear hf hE a1 a4 a5 hO
      refine awp_loopH (fun n B ρ => Ext σ ρ ∧ B 1 = .pp [intsAV t.ports f.p, linksAV t.links f.l] 0 ∧ B 4 = .sl 2 (F.map ptAV) false ∧ ∃ i : Nat, B 6 = .raw (.int .i64 i) ∧ i ≤ F.length ∧ n = F.length - i ∧ (F.take i).all (hasB t) = true ∧ (F.take i).Nodup) F.length ?_ ?_
      · exact ⟨hE', b1, e4, 0, by simp [b6], by omega, by omega, by simp, by simp⟩
      clear hE' b1 e4 b6
      rintro n B ρ ⟨hE, a1, a4, i, a6, hi, rfl, hal, hnd⟩ I1 hI1
      by_cases hlt : i < F.length
      · have hx : F[i]? = some F[i] := List.getElem?_eq_getElem hlt
        have w1 : IntKind.i64.wrap ((i : Int) + 1) = ((i + 1 : Nat) : Int) := by rw [wrap64 (by omega) (by omega)]; omega
        have hh := refHas_calls t f F[i] hl
        by_cases hb : hasB t F[i] = true
        · rw [hb] at hh
          (try ((first | with_reducible refine dops_go ?_ | with_reducible refine OKv_go ?_ | with_reducible refine OKr_go ?_); simp [-cellOK, linksAV, intsAV, a1, a4, a6, hlt, hx, hpc, htf])); repeat' (first | refine awp_seq ?_ | refine awp_block ?_ | (refine awp_skip ?_; try simp) | (refine awp_exit ?_; try simp) | (refine awp_ret ?_; try simp) | (refine retP_same (by simp) ?_; simp) | (refine retP_no (by simp) (by simp [noIds]) (by repeat (first | assumption | exact Ext.refl _ | refine ext_new' ?_ | refine Ext.setF ?_ (by first | assumption | (simp [new_nx', St.set, fresh_none]; done) | exact ext_fresh (by assumption)))) ?_; simp [-cellOK, linksAV, intsAV, a1, a4, a6, hlt, hx, hpc, htf, new_m, set_m, new_nx']) | ((first | refine awp_reg ?_ | refine awp_drawT (fun _ => false) mixed (by decide +kernel) ?_ | refine awp_drawT isCallO mixed (by decide +kernel) ?_ | refine PCalls.use (hh) ?_ | refine Or.inl ⟨_, Or.inl (hh), ?_⟩); simp [-cellOK, linksAV, intsAV, a1, a4, a6, hlt, hx, hpc, htf]) | (refine guarded_split ?_ ?_ <;> (intro hg; simp only [hg]; simp [-cellOK, linksAV, intsAV, a1, a4, a6, hlt, hx, hpc, htf])) | (apply awp_cond_t; focus (simp [-cellOK, linksAV, intsAV, a1, a4, a6, hlt, hx, hpc, htf]; done)) | (apply awp_cond_f; focus (simp [-cellOK, linksAV, intsAV, a1, a4, a6, hlt, hx, hpc, htf]; done)) | (refine awp_cond ?_; simp [-cellOK, linksAV, intsAV, a1, a4, a6, hlt, hx, hpc, htf]; refine ⟨?_, ?_⟩ <;> intro hc) | fail)
          refine awp_loopH (fun n B ρ => Ext σ ρ ∧ B 1 = .pp [intsAV t.ports f.p, linksAV t.links f.l] 0 ∧ B 4 = .sl 2 (F.map ptAV) false ∧ B 6 = .raw (.int .i64 i) ∧ ∃ k : Nat, B 8 = .raw (.int .i64 k) ∧ k ≤ i ∧ n = i - k ∧ ∀ j, (hj : j < k) → (hji : j < F.length) → F[j] ≠ F[i]) i ?_ ?_
          · exact ⟨by simp [hE], by simp [a1, linksAV, intsAV], by simp [a4], by simp [a6], 0, by simp, by omega, by omega, fun j hj => by omega⟩
          rintro n C τ ⟨hE, a1, a4, a6, k, a8, hk, rfl, hne⟩ J1 hJ1
          by_cases hki : k < i
          · have hkl : k < F.length := by omega
            have hx2 : F[k]? = some F[k] := List.getElem?_eq_getElem hkl
            have w2 : IntKind.i64.wrap ((k : Int) + 1) = ((k + 1 : Nat) : Int) := by rw [wrap64 (by omega) (by omega)]; omega
            by_cases he : F[k] = F[i]
            · have hnn : nodupB F = false := by
                cases h : nodupB F with
                | false => rfl
                | true =>
                  have := (nodupB_iff _).1 h
                  exact absurd he (List.pairwise_iff_getElem.1 this k i hkl hlt hki)
              have hd : decide (F[k] = F[i]) = true := decide_eq_true he
              rw [show (F.all (hasB t) && nodupB F) = false by rw [hnn, Bool.and_false]]
              (try ((first | with_reducible refine dops_go ?_ | with_reducible refine OKv_go ?_ | with_reducible refine OKr_go ?_); simp [-cellOK, linksAV, intsAV, hE, a1, a4, a6, a8, hlt, hx, hkl, hki, hx2, w2, hpc, hpf, -opBin, hbin, opBin_raw, hd])); repeat' (first | refine awp_seq ?_ | refine awp_block ?_ | (refine awp_skip ?_; try simp) | (refine awp_exit ?_; try simp) | (refine awp_ret ?_; try simp) | (refine retP_same (by simp) ?_; simp) | (refine retP_no (by simp) (by simp [noIds]) (by repeat (first | assumption | exact Ext.refl _ | refine ext_new' ?_ | refine Ext.setF ?_ (by first | assumption | (simp [new_nx', St.set, fresh_none]; done) | exact ext_fresh (by assumption)))) ?_; simp [-cellOK, linksAV, intsAV, hE, a1, a4, a6, a8, hlt, hx, hkl, hki, hx2, w2, hpc, hpf, -opBin, hbin, opBin_raw, hd, new_m, set_m, new_nx']) | ((first | refine awp_reg ?_ | refine awp_drawT (fun _ => false) mixed (by decide +kernel) ?_ | refine awp_drawT isCallO mixed (by decide +kernel) ?_ | refine PCalls.use (hh) ?_ | refine Or.inl ⟨_, Or.inl (hh), ?_⟩); simp [-cellOK, linksAV, intsAV, hE, a1, a4, a6, a8, hlt, hx, hkl, hki, hx2, w2, hpc, hpf, -opBin, hbin, opBin_raw, hd]) | (refine guarded_split ?_ ?_ <;> (intro hg; simp only [hg]; simp [-cellOK, linksAV, intsAV, hE, a1, a4, a6, a8, hlt, hx, hkl, hki, hx2, w2, hpc, hpf, -opBin, hbin, opBin_raw, hd])) | (apply awp_cond_t; focus (simp [-cellOK, linksAV, intsAV, hE, a1, a4, a6, a8, hlt, hx, hkl, hki, hx2, w2, hpc, hpf, -opBin, hbin, opBin_raw, hd]; done)) | (apply awp_cond_f; focus (simp [-cellOK, linksAV, intsAV, hE, a1, a4, a6, a8, hlt, hx, hkl, hki, hx2, w2, hpc, hpf, -opBin, hbin, opBin_raw, hd]; done)) | (refine awp_cond ?_; simp [-cellOK, linksAV, intsAV, hE, a1, a4, a6, a8, hlt, hx, hkl, hki, hx2, w2, hpc, hpf, -opBin, hbin, opBin_raw, hd]; refine ⟨?_, ?_⟩ <;> intro hc) | fail)
            · have hd : decide (F[k] = F[i]) = false := decide_eq_false he
              (try ((first | with_reducible refine dops_go ?_ | with_reducible refine OKv_go ?_ | with_reducible refine OKr_go ?_); simp [-cellOK, linksAV, intsAV, a1, a4, a6, a8, hlt, hx, hkl, hki, hx2, w2, hpc, hpf, -opBin, hbin, opBin_raw, hd])); repeat' (first | refine awp_seq ?_ | refine awp_block ?_ | (refine awp_skip ?_; try simp) | (refine awp_exit ?_; try simp) | (refine awp_ret ?_; try simp) | (refine retP_same (by simp) ?_; simp) | (refine retP_no (by simp) (by simp [noIds]) (by repeat (first | assumption | exact Ext.refl _ | refine ext_new' ?_ | refine Ext.setF ?_ (by first | assumption | (simp [new_nx', St.set, fresh_none]; done) | exact ext_fresh (by assumption)))) ?_; simp [-cellOK, linksAV, intsAV, a1, a4, a6, a8, hlt, hx, hkl, hki, hx2, w2, hpc, hpf, -opBin, hbin, opBin_raw, hd, new_m, set_m, new_nx']) | ((first | refine awp_reg ?_ | refine awp_drawT (fun _ => false) mixed (by decide +kernel) ?_ | refine awp_drawT isCallO mixed (by decide +kernel) ?_ | refine PCalls.use (hh) ?_ | refine Or.inl ⟨_, Or.inl (hh), ?_⟩); simp [-cellOK, linksAV, intsAV, a1, a4, a6, a8, hlt, hx, hkl, hki, hx2, w2, hpc, hpf, -opBin, hbin, opBin_raw, hd]) | (refine guarded_split ?_ ?_ <;> (intro hg; simp only [hg]; simp [-cellOK, linksAV, intsAV, a1, a4, a6, a8, hlt, hx, hkl, hki, hx2, w2, hpc, hpf, -opBin, hbin, opBin_raw, hd])) | (apply awp_cond_t; focus (simp [-cellOK, linksAV, intsAV, a1, a4, a6, a8, hlt, hx, hkl, hki, hx2, w2, hpc, hpf, -opBin, hbin, opBin_raw, hd]; done)) | (apply awp_cond_f; focus (simp [-cellOK, linksAV, intsAV, a1, a4, a6, a8, hlt, hx, hkl, hki, hx2, w2, hpc, hpf, -opBin, hbin, opBin_raw, hd]; done)) | (refine awp_cond ?_; simp [-cellOK, linksAV, intsAV, a1, a4, a6, a8, hlt, hx, hkl, hki, hx2, w2, hpc, hpf, -opBin, hbin, opBin_raw, hd]; refine ⟨?_, ?_⟩ <;> intro hc) | fail)
              exact hJ1 (i - (k + 1)) _ _ (by omega) ⟨hE, by simp [a1, linksAV, intsAV], by simp [a4], by simp [a6], k + 1, by simp, by omega, rfl, fun j hj hji => by
                by_cases e : j = k
                · subst e; exact he
                · exact hne j (by omega) hji⟩
          · have : k = i := by omega
            subst this
            (try ((first | with_reducible refine dops_go ?_ | with_reducible refine OKv_go ?_ | with_reducible refine OKr_go ?_); simp [-cellOK, linksAV, intsAV, a1, a4, a6, a8, w1])); repeat' (first | refine awp_seq ?_ | refine awp_block ?_ | (refine awp_skip ?_; try simp) | (refine awp_exit ?_; try simp) | (refine awp_ret ?_; try simp) | (refine retP_same (by simp) ?_; simp) | (refine retP_no (by simp) (by simp [noIds]) (by repeat (first | assumption | exact Ext.refl _ | refine ext_new' ?_ | refine Ext.setF ?_ (by first | assumption | (simp [new_nx', St.set, fresh_none]; done) | exact ext_fresh (by assumption)))) ?_; simp [-cellOK, linksAV, intsAV, a1, a4, a6, a8, w1, new_m, set_m, new_nx']) | ((first | refine awp_reg ?_ | refine awp_drawT (fun _ => false) mixed (by decide +kernel) ?_ | refine awp_drawT isCallO mixed (by decide +kernel) ?_ | refine PCalls.use (hh) ?_ | refine Or.inl ⟨_, Or.inl (hh), ?_⟩); simp [-cellOK, linksAV, intsAV, a1, a4, a6, a8, w1]) | (refine guarded_split ?_ ?_ <;> (intro hg; simp only [hg]; simp [-cellOK, linksAV, intsAV, a1, a4, a6, a8, w1])) | (apply awp_cond_t; focus (simp [-cellOK, linksAV, intsAV, a1, a4, a6, a8, w1]; done)) | (apply awp_cond_f; focus (simp [-cellOK, linksAV, intsAV, a1, a4, a6, a8, w1]; done)) | (refine awp_cond ?_; simp [-cellOK, linksAV, intsAV, a1, a4, a6, a8, w1]; refine ⟨?_, ?_⟩ <;> intro hc) | fail)
            refine hI1 (F.length - (k + 1)) _ _ (by omega) ⟨hE, by simp [a1, linksAV, intsAV], by simp [a4], k + 1, by simp, by omega, rfl, ?_, ?_⟩
            · rw [List.take_add_one, hx, List.all_append, hal, Option.toList_some, List.all_cons, hb]; rfl
            · rw [List.take_add_one, hx, List.nodup_append]
              refine ⟨hnd, by simp, fun a ha b hbm e => ?_⟩
              simp only [Option.toList_some, List.mem_singleton] at hbm
              subst hbm; subst e
              obtain ⟨j, hj, e2⟩ := List.mem_iff_getElem.1 ha
              simp only [List.length_take] at hj
              rw [List.getElem_take] at e2
              exact hne j (by omega) (by omega) e2
        · have hb' : hasB t F[i] = false := by simpa using hb
          rw [hb'] at hh
          have hF0 : F.all (hasB t) = false := by
            rw [List.all_eq_false]
            exact ⟨_, List.getElem_mem hlt, by simp [hb']⟩
          rw [show (F.all (hasB t) && nodupB F) = false by rw [hF0, Bool.false_and]]
          (try ((first | with_reducible refine dops_go ?_ | with_reducible refine OKv_go ?_ | with_reducible refine OKr_go ?_); simp [-cellOK, linksAV, intsAV, hE, a1, a4, a6, hlt, hx, hpc, hpf, htf])); repeat' (first | refine awp_seq ?_ | refine awp_block ?_ | (refine awp_skip ?_; try simp) | (refine awp_exit ?_; try simp) | (refine awp_ret ?_; try simp) | (refine retP_same (by simp) ?_; simp) | (refine retP_no (by simp) (by simp [noIds]) (by repeat (first | assumption | exact Ext.refl _ | refine ext_new' ?_ | refine Ext.setF ?_ (by first | assumption | (simp [new_nx', St.set, fresh_none]; done) | exact ext_fresh (by assumption)))) ?_; simp [-cellOK, linksAV, intsAV, hE, a1, a4, a6, hlt, hx, hpc, hpf, htf, new_m, set_m, new_nx']) | ((first | refine awp_reg ?_ | refine awp_drawT (fun _ => false) mixed (by decide +kernel) ?_ | refine awp_drawT isCallO mixed (by decide +kernel) ?_ | refine PCalls.use (hh) ?_ | refine Or.inl ⟨_, Or.inl (hh), ?_⟩); simp [-cellOK, linksAV, intsAV, hE, a1, a4, a6, hlt, hx, hpc, hpf, htf]) | (refine guarded_split ?_ ?_ <;> (intro hg; simp only [hg]; simp [-cellOK, linksAV, intsAV, hE, a1, a4, a6, hlt, hx, hpc, hpf, htf])) | (apply awp_cond_t; focus (simp [-cellOK, linksAV, intsAV, hE, a1, a4, a6, hlt, hx, hpc, hpf, htf]; done)) | (apply awp_cond_f; focus (simp [-cellOK, linksAV, intsAV, hE, a1, a4, a6, hlt, hx, hpc, hpf, htf]; done)) | (refine awp_cond ?_; simp [-cellOK, linksAV, intsAV, hE, a1, a4, a6, hlt, hx, hpc, hpf, htf]; refine ⟨?_, ?_⟩ <;> intro hc) | fail)
      · have : i = F.length := by omega
        subst this
        rw [List.take_length] at hal hnd
        have hnn := (nodupB_iff F).2 hnd
        rw [hal, hnn]
        (try ((first | with_reducible refine dops_go ?_ | with_reducible refine OKv_go ?_ | with_reducible refine OKr_go ?_); simp [-cellOK, linksAV, intsAV, hE, a1, a4, a6])); repeat' (first | refine awp_seq ?_ | refine awp_block ?_ | (refine awp_skip ?_; try simp) | (refine awp_exit ?_; try simp) | (refine awp_ret ?_; try simp) | (refine retP_same (by simp) ?_; simp) | (refine retP_no (by simp) (by simp [noIds]) (by repeat (first | assumption | exact Ext.refl _ | refine ext_new' ?_ | refine Ext.setF ?_ (by first | assumption | (simp [new_nx', St.set, fresh_none]; done) | exact ext_fresh (by assumption)))) ?_; simp [-cellOK, linksAV, intsAV, hE, a1, a4, a6, new_m, set_m, new_nx']) | ((first | refine awp_reg ?_ | refine awp_drawT (fun _ => false) mixed (by decide +kernel) ?_ | refine awp_drawT isCallO mixed (by decide +kernel) ?_); simp [-cellOK, linksAV, intsAV, hE, a1, a4, a6]) | (refine guarded_split ?_ ?_ <;> (intro hg; simp only [hg]; simp [-cellOK, linksAV, intsAV, hE, a1, a4, a6])) | (apply awp_cond_t; focus (simp [-cellOK, linksAV, intsAV, hE, a1, a4, a6]; done)) | (apply awp_cond_f; focus (simp [-cellOK, linksAV, intsAV, hE, a1, a4, a6]; done)) | (refine awp_cond ?_; simp [-cellOK, linksAV, intsAV, hE, a1, a4, a6]; refine ⟨?_, ?_⟩ <;> intro hc) | fail)
end Go.Proofs.YtanimmdlgmkmkaaGreat.Av


/- Networks: the document's right rules, all of them. -/
namespace Go.Proofs.YtanimmdlgmkmkaaGreat.Av
open Go
set_option linter.unusedSimpArgs false
set_option linter.unusedVariables false
set_option maxRecDepth 100000
set_option maxHeartbeats 2000000
set_option pp.maxSteps 300

/-- The ID ahead of the place i. -/
def idAt (l : List Ru) (i : Nat) : Int := match i with | 0 => 0 | k + 1 => match l[k]? with | some r => r.id | none => 0
theorem refAll_calls (l : List Ru) (f : Bool) (hl : l.length < 2932031007403) (hid : ∀ r ∈ l, -9223372036854775808 ≤ r.id ∧ r.id < 9223372036854775808) : PCalls Tryz.prog 123 [rulesAV l f] (.raw (.bool (allB l))) := by
  refine pbody Tryz.func123 rfl (N := 39) rfl rfl (by simp) (by simp [noIds]) fun σ => ?_
  (try (first | (with_reducible refine dops_go ?_; simp [rulesAV]) | (with_reducible refine OKv_go ?_; simp [rulesAV]) | (with_reducible refine OKr_go ?_; simp [rulesAV]))); repeat' (first | refine awp_seq ?_ | refine awp_block ?_ | (refine awp_skip ?_; try simp) | (refine awp_exit ?_; try simp) | (refine awp_ret ?_; try simp) | (refine retP_same (by simp) ?_; simp) | (refine retP_flat (by simp) (by simp) (by simp (maxDischargeDepth := 30) [rulesAV]) ?_; simp) | (refine awp_reg ?_; simp [rulesAV]) | (refine awp_drawT (fun _ => false) mixed (by decide +kernel) ?_; simp [rulesAV]) | (refine guarded_split ?_ ?_ <;> (intro hg; simp only [hg]; simp [rulesAV])) | (apply awp_cond_t; focus (simp [rulesAV]; done)) | (apply awp_cond_f; focus (simp [rulesAV]; done)) | (refine awp_cond ?_; simp [rulesAV]; refine ⟨?_, ?_⟩ <;> intro hc))
  refine awp_loopH (fun n A τ => τ = σ ∧ A 0 = rulesAV l f ∧ ∃ i : Nat, A 3 = .raw (.int .i64 i) ∧ i ≤ l.length ∧ n = l.length - i ∧ allFrom 0 l = allFrom (idAt l i) (l.drop i)) l.length ?_ ?_
  · exact ⟨rfl, by simp [rulesAV], 0, by simp, by omega, by omega, by simp [idAt]⟩
  rintro n A τ ⟨rfl, a0, i, a3, hi, rfl, hall⟩ I1 hI1
  by_cases hlt : i < l.length
  · have hx : l[i]? = some l[i] := List.getElem?_eq_getElem hlt
    have w1 : IntKind.i64.wrap ((i : Int) + 1) = ((i + 1 : Nat) : Int) := by rw [wrap64 (by omega) (by omega)]; omega
    have hd : l.drop i = l[i] :: l.drop (i + 1) := List.drop_eq_getElem_cons hlt
    rw [hd] at hall
    simp only [allFrom] at hall
    obtain ⟨b, hb⟩ : ∃ b, ruleB l[i] = b := ⟨_, rfl⟩
    have hr := hb ▸ refRuleRight_calls l[i] (hid _ (List.getElem_mem _)).1 (hid _ (List.getElem_mem _)).2
    rw [hb] at hall
    (try (first | (with_reducible refine dops_go ?_; simp [rulesAV, a0, a3, hlt, hx, ru_cells, ru_ok, ru_fold, w1]) | (with_reducible refine OKv_go ?_; simp [rulesAV, a0, a3, hlt, hx, ru_cells, ru_ok, ru_fold, w1]) | (with_reducible refine OKr_go ?_; simp [rulesAV, a0, a3, hlt, hx, ru_cells, ru_ok, ru_fold, w1]))); repeat' (first | refine awp_seq ?_ | refine awp_block ?_ | (refine awp_skip ?_; try simp) | (refine awp_exit ?_; try simp) | (refine awp_ret ?_; try simp) | (refine retP_same (by simp) ?_; simp) | (refine retP_flat (by simp) (by simp) (by simp (maxDischargeDepth := 30) [rulesAV, a0, a3, hlt, hx, ru_cells, ru_ok, ru_fold, w1]) ?_; simp) | (refine awp_reg ?_; simp [rulesAV, a0, a3, hlt, hx, ru_cells, ru_ok, ru_fold, w1]) | (refine awp_drawT (fun _ => false) mixed (by decide +kernel) ?_; simp [rulesAV, a0, a3, hlt, hx, ru_cells, ru_ok, ru_fold, w1]) | (refine guarded_split ?_ ?_ <;> (intro hg; simp only [hg]; simp [rulesAV, a0, a3, hlt, hx, ru_cells, ru_ok, ru_fold, w1])) | (apply awp_cond_t; focus (simp [rulesAV, a0, a3, hlt, hx, ru_cells, ru_ok, ru_fold, w1]; done)) | (apply awp_cond_f; focus (simp [rulesAV, a0, a3, hlt, hx, ru_cells, ru_ok, ru_fold, w1]; done)) | (refine awp_cond ?_; simp [rulesAV, a0, a3, hlt, hx, ru_cells, ru_ok, ru_fold, w1]; refine ⟨?_, ?_⟩ <;> intro hc))
    refine PCalls.use hr ?_
    cases b with
    | false =>
      (try (first | (with_reducible refine dops_go ?_; simp [rulesAV, a0, a3, hlt, hx, ru_cells, ru_ok, ru_fold, w1]) | (with_reducible refine OKv_go ?_; simp [rulesAV, a0, a3, hlt, hx, ru_cells, ru_ok, ru_fold, w1]) | (with_reducible refine OKr_go ?_; simp [rulesAV, a0, a3, hlt, hx, ru_cells, ru_ok, ru_fold, w1]))); repeat' (first | refine awp_seq ?_ | refine awp_block ?_ | (refine awp_skip ?_; try simp) | (refine awp_exit ?_; try simp) | (refine awp_ret ?_; try simp) | (refine retP_same (by simp) ?_; simp) | (refine retP_flat (by simp) (by simp) (by simp (maxDischargeDepth := 30) [rulesAV, a0, a3, hlt, hx, ru_cells, ru_ok, ru_fold, w1]) ?_; simp) | (refine awp_reg ?_; simp [rulesAV, a0, a3, hlt, hx, ru_cells, ru_ok, ru_fold, w1]) | (refine awp_drawT (fun _ => false) mixed (by decide +kernel) ?_; simp [rulesAV, a0, a3, hlt, hx, ru_cells, ru_ok, ru_fold, w1]) | (refine guarded_split ?_ ?_ <;> (intro hg; simp only [hg]; simp [rulesAV, a0, a3, hlt, hx, ru_cells, ru_ok, ru_fold, w1])) | (apply awp_cond_t; focus (simp [rulesAV, a0, a3, hlt, hx, ru_cells, ru_ok, ru_fold, w1]; done)) | (apply awp_cond_f; focus (simp [rulesAV, a0, a3, hlt, hx, ru_cells, ru_ok, ru_fold, w1]; done)) | (refine awp_cond ?_; simp [rulesAV, a0, a3, hlt, hx, ru_cells, ru_ok, ru_fold, w1]; refine ⟨?_, ?_⟩ <;> intro hc))
      all_goals simp [allB, hall]
    | true =>
      cases i with
      | zero =>
        have hpos : 1 ≤ l[0].id := by
          have := hb; unfold ruleB at this; simp at this; omega
        (try (first | (with_reducible refine dops_go ?_; simp [rulesAV, a0, a3, hlt, hx, ru_cells, ru_ok, ru_fold, w1]) | (with_reducible refine OKv_go ?_; simp [rulesAV, a0, a3, hlt, hx, ru_cells, ru_ok, ru_fold, w1]) | (with_reducible refine OKr_go ?_; simp [rulesAV, a0, a3, hlt, hx, ru_cells, ru_ok, ru_fold, w1]))); repeat' (first | refine awp_seq ?_ | refine awp_block ?_ | (refine awp_skip ?_; try simp) | (refine awp_exit ?_; try simp) | (refine awp_ret ?_; try simp) | (refine retP_same (by simp) ?_; simp) | (refine retP_flat (by simp) (by simp) (by simp (maxDischargeDepth := 30) [rulesAV, a0, a3, hlt, hx, ru_cells, ru_ok, ru_fold, w1]) ?_; simp) | (refine awp_reg ?_; simp [rulesAV, a0, a3, hlt, hx, ru_cells, ru_ok, ru_fold, w1]) | (refine awp_drawT (fun _ => false) mixed (by decide +kernel) ?_; simp [rulesAV, a0, a3, hlt, hx, ru_cells, ru_ok, ru_fold, w1]) | (refine guarded_split ?_ ?_ <;> (intro hg; simp only [hg]; simp [rulesAV, a0, a3, hlt, hx, ru_cells, ru_ok, ru_fold, w1])) | (apply awp_cond_t; focus (simp [rulesAV, a0, a3, hlt, hx, ru_cells, ru_ok, ru_fold, w1]; done)) | (apply awp_cond_f; focus (simp [rulesAV, a0, a3, hlt, hx, ru_cells, ru_ok, ru_fold, w1]; done)) | (refine awp_cond ?_; simp [rulesAV, a0, a3, hlt, hx, ru_cells, ru_ok, ru_fold, w1]; refine ⟨?_, ?_⟩ <;> intro hc))
        have w0 : IntKind.i64.wrap 1 = 1 := wrap64 (by omega) (by omega)
        have hx0 : l[0]? = some l[0] := hx
        have h0 : (0 : Int) < l[0].id := by omega
        have h1 : idAt l 1 = l[0].id := by simp [idAt, hx0]
        exact hI1 (l.length - 1) _ _ (by omega) ⟨rfl, by simp [a0, rulesAV], 1, by simp [w0], by omega, rfl, by rw [hall, h1]; simp [idAt, h0]⟩
      | succ k =>
        have hk : k < l.length := by omega
        have hxk : l[k]? = some l[k] := List.getElem?_eq_getElem hk
        have w2 : IntKind.i64.wrap (k : Int) = k := wrap64 (by omega) (by omega)
        have hp0 : (0 : Int) ≤ (k : Int) + 1 := by omega
        have htn : ((k : Int) + 1).toNat = k + 1 := by omega
        have w4 : IntKind.i64.wrap ((k : Int) + 1 + 1) = (k : Int) + 1 + 1 := wrap64 (by omega) (by omega)
        have w3 : IntKind.i64.wrap ((k : Int) + 1 - 1) = k := by rw [wrap64 (by omega) (by omega)]; omega
        have hidk : idAt l (k + 1) = l[k].id := by simp [idAt, hxk]
        rw [hidk] at hall
        have hpk : (0 : Int) < (k : Int) + 1 := by omega
        by_cases hle : l[k + 1].id ≤ l[k].id
        · have hnl : ¬ l[k].id < l[k + 1].id := by omega
          (try (first | (with_reducible refine dops_go ?_; simp [rulesAV, a0, a3, hlt, hx, hk, hxk, ru_cells, ru_ok, ru_fold, w1, w2, w3, w4, hp0, htn, hpk, hle]) | (with_reducible refine OKv_go ?_; simp [rulesAV, a0, a3, hlt, hx, hk, hxk, ru_cells, ru_ok, ru_fold, w1, w2, w3, w4, hp0, htn, hpk, hle]) | (with_reducible refine OKr_go ?_; simp [rulesAV, a0, a3, hlt, hx, hk, hxk, ru_cells, ru_ok, ru_fold, w1, w2, w3, w4, hp0, htn, hpk, hle]))); repeat' (first | refine awp_seq ?_ | refine awp_block ?_ | (refine awp_skip ?_; try simp) | (refine awp_exit ?_; try simp) | (refine awp_ret ?_; try simp) | (refine retP_same (by simp) ?_; simp) | (refine retP_flat (by simp) (by simp) (by simp (maxDischargeDepth := 30) [rulesAV, a0, a3, hlt, hx, hk, hxk, ru_cells, ru_ok, ru_fold, w1, w2, w3, w4, hp0, htn, hpk, hle]) ?_; simp) | (refine awp_reg ?_; simp [rulesAV, a0, a3, hlt, hx, hk, hxk, ru_cells, ru_ok, ru_fold, w1, w2, w3, w4, hp0, htn, hpk, hle]) | (refine awp_drawT (fun _ => false) mixed (by decide +kernel) ?_; simp [rulesAV, a0, a3, hlt, hx, hk, hxk, ru_cells, ru_ok, ru_fold, w1, w2, w3, w4, hp0, htn, hpk, hle]) | (refine guarded_split ?_ ?_ <;> (intro hg; simp only [hg]; simp [rulesAV, a0, a3, hlt, hx, hk, hxk, ru_cells, ru_ok, ru_fold, w1, w2, w3, w4, hp0, htn, hpk, hle])) | (apply awp_cond_t; focus (simp [rulesAV, a0, a3, hlt, hx, hk, hxk, ru_cells, ru_ok, ru_fold, w1, w2, w3, w4, hp0, htn, hpk, hle]; done)) | (apply awp_cond_f; focus (simp [rulesAV, a0, a3, hlt, hx, hk, hxk, ru_cells, ru_ok, ru_fold, w1, w2, w3, w4, hp0, htn, hpk, hle]; done)) | (refine awp_cond ?_; simp [rulesAV, a0, a3, hlt, hx, hk, hxk, ru_cells, ru_ok, ru_fold, w1, w2, w3, w4, hp0, htn, hpk, hle]; refine ⟨?_, ?_⟩ <;> intro hc))
          all_goals simp [allB, hall, hnl]
        · have hg : l[k].id < l[k + 1].id := by omega
          (try (first | (with_reducible refine dops_go ?_; simp [rulesAV, a0, a3, hlt, hx, hk, hxk, ru_cells, ru_ok, ru_fold, w1, w2, w3, w4, hp0, htn, hpk, hle]) | (with_reducible refine OKv_go ?_; simp [rulesAV, a0, a3, hlt, hx, hk, hxk, ru_cells, ru_ok, ru_fold, w1, w2, w3, w4, hp0, htn, hpk, hle]) | (with_reducible refine OKr_go ?_; simp [rulesAV, a0, a3, hlt, hx, hk, hxk, ru_cells, ru_ok, ru_fold, w1, w2, w3, w4, hp0, htn, hpk, hle]))); repeat' (first | refine awp_seq ?_ | refine awp_block ?_ | (refine awp_skip ?_; try simp) | (refine awp_exit ?_; try simp) | (refine awp_ret ?_; try simp) | (refine retP_same (by simp) ?_; simp) | (refine retP_flat (by simp) (by simp) (by simp (maxDischargeDepth := 30) [rulesAV, a0, a3, hlt, hx, hk, hxk, ru_cells, ru_ok, ru_fold, w1, w2, w3, w4, hp0, htn, hpk, hle]) ?_; simp) | (refine awp_reg ?_; simp [rulesAV, a0, a3, hlt, hx, hk, hxk, ru_cells, ru_ok, ru_fold, w1, w2, w3, w4, hp0, htn, hpk, hle]) | (refine awp_drawT (fun _ => false) mixed (by decide +kernel) ?_; simp [rulesAV, a0, a3, hlt, hx, hk, hxk, ru_cells, ru_ok, ru_fold, w1, w2, w3, w4, hp0, htn, hpk, hle]) | (refine guarded_split ?_ ?_ <;> (intro hg; simp only [hg]; simp [rulesAV, a0, a3, hlt, hx, hk, hxk, ru_cells, ru_ok, ru_fold, w1, w2, w3, w4, hp0, htn, hpk, hle])) | (apply awp_cond_t; focus (simp [rulesAV, a0, a3, hlt, hx, hk, hxk, ru_cells, ru_ok, ru_fold, w1, w2, w3, w4, hp0, htn, hpk, hle]; done)) | (apply awp_cond_f; focus (simp [rulesAV, a0, a3, hlt, hx, hk, hxk, ru_cells, ru_ok, ru_fold, w1, w2, w3, w4, hp0, htn, hpk, hle]; done)) | (refine awp_cond ?_; simp [rulesAV, a0, a3, hlt, hx, hk, hxk, ru_cells, ru_ok, ru_fold, w1, w2, w3, w4, hp0, htn, hpk, hle]; refine ⟨?_, ?_⟩ <;> intro hc))
          exact hI1 (l.length - (k + 1 + 1)) _ _ (by omega) ⟨rfl, by simp [a0, rulesAV], k + 1 + 1, by simp, by omega, rfl, by rw [hall]; simp [idAt, hx, hg]⟩
  · have : i = l.length := by omega
    subst this
    (try (first | (with_reducible refine dops_go ?_; simp [rulesAV, a0, a3]) | (with_reducible refine OKv_go ?_; simp [rulesAV, a0, a3]) | (with_reducible refine OKr_go ?_; simp [rulesAV, a0, a3]))); repeat' (first | refine awp_seq ?_ | refine awp_block ?_ | (refine awp_skip ?_; try simp) | (refine awp_exit ?_; try simp) | (refine awp_ret ?_; try simp) | (refine retP_same (by simp) ?_; simp) | (refine retP_flat (by simp) (by simp) (by simp (maxDischargeDepth := 30) [rulesAV, a0, a3]) ?_; simp) | (refine awp_reg ?_; simp [rulesAV, a0, a3]) | (refine awp_drawT (fun _ => false) mixed (by decide +kernel) ?_; simp [rulesAV, a0, a3]) | (refine guarded_split ?_ ?_ <;> (intro hg; simp only [hg]; simp [rulesAV, a0, a3])) | (apply awp_cond_t; focus (simp [rulesAV, a0, a3]; done)) | (apply awp_cond_f; focus (simp [rulesAV, a0, a3]; done)) | (refine awp_cond ?_; simp [rulesAV, a0, a3]; refine ⟨?_, ?_⟩ <;> intro hc))
    rw [List.drop_length] at hall
    simp only [allFrom] at hall
    simp [allB, hall]
    omega
end Go.Proofs.YtanimmdlgmkmkaaGreat.Av


/- The laws' own functions: right networks, such as are asked about, the live question of queries. -/
namespace Go.Proofs.YtanimmdlgmkmkaaGreat.Av
open Go
set_option linter.unusedSimpArgs false
set_option linter.unusedVariables false
set_option maxRecDepth 100000
set_option maxHeartbeats 4000000
set_option pp.maxSteps 600

theorem refNwRight_calls (n : Nw) (f : Fl) (hn : NwOK n) : PCalls Tryz.prog 73 [nwAV n f] (.raw (.bool (rightN n))) := by
  have l1 := hn.ports
  have l2 := hn.links
  have l3 := hn.rules
  have h1 := refRight_calls n.t f (by omega) l2
  have h2 := refAll_calls n.rules f.r l3 hn.id
  have h3 := refFits_calls n.t f n.rules f.r (by omega) (by omega)
  rw [← rightT_eq] at h1
  unfold rightN
  have htf : ∀ (N : Nw) (F : Fl), AV.agg [intsAV N.t.ports F.p, linksAV N.t.links F.l] = tpAV N.t F := fun _ _ => rfl
  generalize rightT n.t = b1 at h1 ⊢
  generalize allB n.rules = b2 at h2 ⊢
  generalize fitsB n.t n.rules = b3 at h3 ⊢
  refine pbody Tryz.func73 rfl (N := 22) rfl rfl (by simp) (by simp [noIds]) fun σ => ?_
  cases b1 <;> cases b2 <;> ((try ((first | with_reducible refine dops_go ?_ | with_reducible refine OKv_go ?_ | with_reducible refine OKr_go ?_); simp [-cellOK, nw_cells, htf])); repeat' (first | refine awp_seq ?_ | refine awp_block ?_ | (refine awp_skip ?_; try simp) | (refine awp_exit ?_; try simp) | (refine awp_ret ?_; try simp) | (refine retP_same (by simp) ?_; simp) | (refine retP_no (by simp) (by simp [noIds]) (by repeat (first | assumption | exact Ext.refl _ | refine ext_new' ?_ | refine Ext.setF ?_ (by first | assumption | (simp [new_nx', St.set, fresh_none]; done) | exact ext_fresh (by assumption)))) ?_; simp [-cellOK, nw_cells, htf, new_m, set_m, new_nx']) | ((first | refine awp_reg ?_ | refine awp_drawT (fun _ => false) mixed (by decide +kernel) ?_ | refine awp_drawT isCallO mixed (by decide +kernel) ?_ | refine PCalls.use (h1) ?_ | refine Or.inl ⟨_, Or.inl (h1), ?_⟩ | refine PCalls.use (h2) ?_ | refine Or.inl ⟨_, Or.inl (h2), ?_⟩ | refine PCalls.use (h3) ?_ | refine Or.inl ⟨_, Or.inl (h3), ?_⟩); simp [-cellOK, nw_cells, htf]) | (refine guarded_split ?_ ?_ <;> (intro hg; simp only [hg]; simp [-cellOK, nw_cells, htf])) | (apply awp_cond_t; focus (simp [-cellOK, nw_cells, htf]; done)) | (apply awp_cond_f; focus (simp [-cellOK, nw_cells, htf]; done)) | (refine awp_cond ?_; simp [-cellOK, nw_cells, htf]; refine ⟨?_, ?_⟩ <;> intro hc) | fail))
def fits09 (n : Nw) : Bool := !decide (20 < n.t.ports.length) && (!decide (40 < n.t.links.length) && (!decide (60 < n.rules.length) && rightN n))
/-- What is known of a network before its sizes are. -/
structure NwW (n : Nw) : Prop where
  rg : ∀ r ∈ n.rules, RgOK r.r
  id : ∀ r ∈ n.rules, -9223372036854775808 ≤ r.id ∧ r.id < 9223372036854775808
theorem NwOK.w {n : Nw} (h : NwOK n) : NwW n := ⟨h.rg, h.id⟩
theorem NwW.small {n : Nw} (h : NwW n) (h1 : ¬ 20 < n.t.ports.length) (h2 : ¬ 40 < n.t.links.length) (h3 : ¬ 60 < n.rules.length) : NwOK n where
  rg := h.rg
  id := h.id
  ports := by omega
  links := by omega
  rules := by omega
theorem NwW.fits {n : Nw} (h : NwW n) (hf : fits09 n = true) : NwOK n := by
  unfold fits09 at hf
  simp only [Bool.and_eq_true, Bool.not_eq_true', decide_eq_false_iff_not] at hf
  exact h.small hf.1 hf.2.1 hf.2.2.1
theorem fits09_calls (n : Nw) (f : Fl) (hn : NwW n) : PCalls Tryz.prog 24 [nwAV n f] (.raw (.bool (fits09 n))) := by
  have h1 := fun a b c => refNwRight_calls n f (hn.small a b c)
  unfold fits09
  generalize rightN n = b1 at h1 ⊢
  have hp : ∀ m, opLen Tryz.prog m 22 (intsAV n.t.ports f.p) = some (.raw (.int .i64 n.t.ports.length)) := fun m => by simp [intsAV]
  have hk : ∀ m, opLen Tryz.prog m 23 (linksAV n.t.links f.l) = some (.raw (.int .i64 n.t.links.length)) := fun m => by simp [linksAV]
  have hu : ∀ m, opLen Tryz.prog m 26 (rulesAV n.rules f.r) = some (.raw (.int .i64 n.rules.length)) := fun m => by simp [rulesAV]
  generalize n.t.ports.length = x at hp h1 ⊢
  generalize n.t.links.length = y at hk h1 ⊢
  generalize n.rules.length = z at hu h1 ⊢
  refine pbody Tryz.func24 rfl (N := 25) rfl rfl (by simp) (by simp [noIds]) fun σ => ?_
  by_cases q1 : 20 < x
  · have q1' : (20 : Int) < (x : Int) := by omega
    (try ((first | with_reducible refine dops_go ?_ | with_reducible refine OKv_go ?_ | with_reducible refine OKr_go ?_); simp [-cellOK, nw_cells, nw_fold, -opLen, hp, hk, hu, q1, q1'])); repeat' (first | refine awp_seq ?_ | refine awp_block ?_ | (refine awp_skip ?_; try simp) | (refine awp_exit ?_; try simp) | (refine awp_ret ?_; try simp) | (refine retP_same (by simp) ?_; simp) | (refine retP_no (by simp) (by simp [noIds]) (by repeat (first | assumption | exact Ext.refl _ | refine ext_new' ?_ | refine Ext.setF ?_ (by first | assumption | (simp [new_nx', St.set, fresh_none]; done) | exact ext_fresh (by assumption)))) ?_; simp [-cellOK, nw_cells, nw_fold, -opLen, hp, hk, hu, q1, q1', new_m, set_m, new_nx']) | ((first | refine awp_reg ?_ | refine awp_drawT (fun _ => false) mixed (by decide +kernel) ?_ | refine awp_drawT isCallO mixed (by decide +kernel) ?_); simp [-cellOK, nw_cells, nw_fold, -opLen, hp, hk, hu, q1, q1']) | (refine guarded_split ?_ ?_ <;> (intro hg; simp only [hg]; simp [-cellOK, nw_cells, nw_fold, -opLen, hp, hk, hu, q1, q1'])) | (apply awp_cond_t; focus (simp [-cellOK, nw_cells, nw_fold, -opLen, hp, hk, hu, q1, q1']; done)) | (apply awp_cond_f; focus (simp [-cellOK, nw_cells, nw_fold, -opLen, hp, hk, hu, q1, q1']; done)) | (refine awp_cond ?_; simp [-cellOK, nw_cells, nw_fold, -opLen, hp, hk, hu, q1, q1']; refine ⟨?_, ?_⟩ <;> intro hc) | fail)
  have q1' : ¬ (20 : Int) < (x : Int) := by omega
  by_cases q2 : 40 < y
  · have q2' : (40 : Int) < (y : Int) := by omega
    (try ((first | with_reducible refine dops_go ?_ | with_reducible refine OKv_go ?_ | with_reducible refine OKr_go ?_); simp [-cellOK, nw_cells, nw_fold, -opLen, hp, hk, hu, q1, q1', q2, q2'])); repeat' (first | refine awp_seq ?_ | refine awp_block ?_ | (refine awp_skip ?_; try simp) | (refine awp_exit ?_; try simp) | (refine awp_ret ?_; try simp) | (refine retP_same (by simp) ?_; simp) | (refine retP_no (by simp) (by simp [noIds]) (by repeat (first | assumption | exact Ext.refl _ | refine ext_new' ?_ | refine Ext.setF ?_ (by first | assumption | (simp [new_nx', St.set, fresh_none]; done) | exact ext_fresh (by assumption)))) ?_; simp [-cellOK, nw_cells, nw_fold, -opLen, hp, hk, hu, q1, q1', q2, q2', new_m, set_m, new_nx']) | ((first | refine awp_reg ?_ | refine awp_drawT (fun _ => false) mixed (by decide +kernel) ?_ | refine awp_drawT isCallO mixed (by decide +kernel) ?_); simp [-cellOK, nw_cells, nw_fold, -opLen, hp, hk, hu, q1, q1', q2, q2']) | (refine guarded_split ?_ ?_ <;> (intro hg; simp only [hg]; simp [-cellOK, nw_cells, nw_fold, -opLen, hp, hk, hu, q1, q1', q2, q2'])) | (apply awp_cond_t; focus (simp [-cellOK, nw_cells, nw_fold, -opLen, hp, hk, hu, q1, q1', q2, q2']; done)) | (apply awp_cond_f; focus (simp [-cellOK, nw_cells, nw_fold, -opLen, hp, hk, hu, q1, q1', q2, q2']; done)) | (refine awp_cond ?_; simp [-cellOK, nw_cells, nw_fold, -opLen, hp, hk, hu, q1, q1', q2, q2']; refine ⟨?_, ?_⟩ <;> intro hc) | fail)
  have q2' : ¬ (40 : Int) < (y : Int) := by omega
  by_cases q3 : 60 < z
  · have q3' : (60 : Int) < (z : Int) := by omega
    (try ((first | with_reducible refine dops_go ?_ | with_reducible refine OKv_go ?_ | with_reducible refine OKr_go ?_); simp [-cellOK, nw_cells, nw_fold, -opLen, hp, hk, hu, q1, q1', q2, q2', q3, q3'])); repeat' (first | refine awp_seq ?_ | refine awp_block ?_ | (refine awp_skip ?_; try simp) | (refine awp_exit ?_; try simp) | (refine awp_ret ?_; try simp) | (refine retP_same (by simp) ?_; simp) | (refine retP_no (by simp) (by simp [noIds]) (by repeat (first | assumption | exact Ext.refl _ | refine ext_new' ?_ | refine Ext.setF ?_ (by first | assumption | (simp [new_nx', St.set, fresh_none]; done) | exact ext_fresh (by assumption)))) ?_; simp [-cellOK, nw_cells, nw_fold, -opLen, hp, hk, hu, q1, q1', q2, q2', q3, q3', new_m, set_m, new_nx']) | ((first | refine awp_reg ?_ | refine awp_drawT (fun _ => false) mixed (by decide +kernel) ?_ | refine awp_drawT isCallO mixed (by decide +kernel) ?_); simp [-cellOK, nw_cells, nw_fold, -opLen, hp, hk, hu, q1, q1', q2, q2', q3, q3']) | (refine guarded_split ?_ ?_ <;> (intro hg; simp only [hg]; simp [-cellOK, nw_cells, nw_fold, -opLen, hp, hk, hu, q1, q1', q2, q2', q3, q3'])) | (apply awp_cond_t; focus (simp [-cellOK, nw_cells, nw_fold, -opLen, hp, hk, hu, q1, q1', q2, q2', q3, q3']; done)) | (apply awp_cond_f; focus (simp [-cellOK, nw_cells, nw_fold, -opLen, hp, hk, hu, q1, q1', q2, q2', q3, q3']; done)) | (refine awp_cond ?_; simp [-cellOK, nw_cells, nw_fold, -opLen, hp, hk, hu, q1, q1', q2, q2', q3, q3']; refine ⟨?_, ?_⟩ <;> intro hc) | fail)
  have q3' : ¬ (60 : Int) < (z : Int) := by omega
  have h1 := h1 q1 q2 q3
  (try ((first | with_reducible refine dops_go ?_ | with_reducible refine OKv_go ?_ | with_reducible refine OKr_go ?_); simp [-cellOK, nw_cells, nw_fold, -opLen, hp, hk, hu, q1, q1', q2, q2', q3, q3'])); repeat' (first | refine awp_seq ?_ | refine awp_block ?_ | (refine awp_skip ?_; try simp) | (refine awp_exit ?_; try simp) | (refine awp_ret ?_; try simp) | (refine retP_same (by simp) ?_; simp) | (refine retP_no (by simp) (by simp [noIds]) (by repeat (first | assumption | exact Ext.refl _ | refine ext_new' ?_ | refine Ext.setF ?_ (by first | assumption | (simp [new_nx', St.set, fresh_none]; done) | exact ext_fresh (by assumption)))) ?_; simp [-cellOK, nw_cells, nw_fold, -opLen, hp, hk, hu, q1, q1', q2, q2', q3, q3', new_m, set_m, new_nx']) | ((first | refine awp_reg ?_ | refine awp_drawT (fun _ => false) mixed (by decide +kernel) ?_ | refine awp_drawT isCallO mixed (by decide +kernel) ?_ | refine PCalls.use (h1) ?_ | refine Or.inl ⟨_, Or.inl (h1), ?_⟩); simp [-cellOK, nw_cells, nw_fold, -opLen, hp, hk, hu, q1, q1', q2, q2', q3, q3']) | (refine guarded_split ?_ ?_ <;> (intro hg; simp only [hg]; simp [-cellOK, nw_cells, nw_fold, -opLen, hp, hk, hu, q1, q1', q2, q2', q3, q3'])) | (apply awp_cond_t; focus (simp [-cellOK, nw_cells, nw_fold, -opLen, hp, hk, hu, q1, q1', q2, q2', q3, q3']; done)) | (apply awp_cond_f; focus (simp [-cellOK, nw_cells, nw_fold, -opLen, hp, hk, hu, q1, q1', q2, q2', q3, q3']; done)) | (refine awp_cond ?_; simp [-cellOK, nw_cells, nw_fold, -opLen, hp, hk, hu, q1, q1', q2, q2', q3, q3']; refine ⟨?_, ?_⟩ <;> intro hc) | fail)
def nw2AV (n m : Nw) (f g : Fl) : AV := .agg ((nwAV n f).cells ++ (nwAV m g).cells)
theorem nw2_cells (n m : Nw) (f g : Fl) : (nw2AV n m f g).cells = [intsAV n.t.ports f.p, linksAV n.t.links f.l, rulesAV n.rules f.r, intsAV m.t.ports g.p, linksAV m.t.links g.l, rulesAV m.rules g.r] := rfl
theorem nw2_fold (n m : Nw) (f g : Fl) : AV.agg [intsAV n.t.ports f.p, linksAV n.t.links f.l, rulesAV n.rules f.r, intsAV m.t.ports g.p, linksAV m.t.links g.l, rulesAV m.rules g.r] = nw2AV n m f g := rfl
def fits12 (n m : Nw) (q : Qy) : Bool := fits09 n && (fits09 m && decide (q.other.size ≤ 60))
theorem fits12_calls (n m : Nw) (f g : Fl) (q : Qy) (hn : NwW n) (hm : NwW m) : PCalls Tryz.prog 13 [nw2AV n m f g, qyAV q] (.raw (.bool (fits12 n m q))) := by
  have h1 := fits09_calls n f hn
  have h2 := fits09_calls m g hm
  unfold fits12
  generalize fits09 n = b1 at h1 ⊢
  generalize fits09 m = b2 at h2 ⊢
  generalize hz : q.other.size = z
  have hz' : (q.other.size : Int) = z := by rw [hz]
  refine pbody Tryz.func13 rfl (N := 23) rfl rfl (by simp) (by simp [noIds]) fun σ => ?_
  have hdz : decide ((z : Int) ≤ 60) = decide (z ≤ 60) := by congr 1; exact propext (by omega)
  cases b1 <;> cases b2 <;> ((try ((first | with_reducible refine dops_go ?_ | with_reducible refine OKv_go ?_ | with_reducible refine OKr_go ?_); simp [-cellOK, nw2_cells, nw_fold, qy_cells, hz', hdz])); repeat' (first | refine awp_seq ?_ | refine awp_block ?_ | (refine awp_skip ?_; try simp) | (refine awp_exit ?_; try simp) | (refine awp_ret ?_; try simp) | (refine retP_same (by simp) ?_; simp) | (refine retP_no (by simp) (by simp [noIds]) (by repeat (first | assumption | exact Ext.refl _ | refine ext_new' ?_ | refine Ext.setF ?_ (by first | assumption | (simp [new_nx', St.set, fresh_none]; done) | exact ext_fresh (by assumption)))) ?_; simp [-cellOK, nw2_cells, nw_fold, qy_cells, hz', hdz, new_m, set_m, new_nx']) | ((first | refine awp_reg ?_ | refine awp_drawT (fun _ => false) mixed (by decide +kernel) ?_ | refine awp_drawT isCallO mixed (by decide +kernel) ?_ | refine PCalls.use (h1) ?_ | refine Or.inl ⟨_, Or.inl (h1), ?_⟩ | refine PCalls.use (h2) ?_ | refine Or.inl ⟨_, Or.inl (h2), ?_⟩); simp [-cellOK, nw2_cells, nw_fold, qy_cells, hz', hdz]) | (refine guarded_split ?_ ?_ <;> (intro hg; simp only [hg]; simp [-cellOK, nw2_cells, nw_fold, qy_cells, hz', hdz])) | (apply awp_cond_t; focus (simp [-cellOK, nw2_cells, nw_fold, qy_cells, hz', hdz]; done)) | (apply awp_cond_f; focus (simp [-cellOK, nw2_cells, nw_fold, qy_cells, hz', hdz]; done)) | (refine awp_cond ?_; simp [-cellOK, nw2_cells, nw_fold, qy_cells, hz', hdz]; refine ⟨?_, ?_⟩ <;> intro hc) | fail))
/-- The network of the live questions. -/
def netN : Nw := ⟨⟨[2, 3, 2], [⟨⟨0, 1⟩, ⟨1, 0⟩⟩, ⟨⟨1, 1⟩, ⟨2, 0⟩⟩]⟩, [⟨1, 0, 0, 0, ⟨0, 99⟩, 1⟩, ⟨2, 1, 0, 0, ⟨0, 49⟩, 1⟩, ⟨3, 1, 0, 0, ⟨50, 59⟩, 0⟩, ⟨4, 2, 0, 0, ⟨0, 29⟩, 1⟩, ⟨5, 2, 0, 3, ⟨20, 24⟩, 0⟩]⟩
def flN : Fl := ⟨false, false, false⟩
theorem netN_ok : NwOK netN where
  rg := by
    intro r hr
    simp only [netN, List.mem_cons, List.not_mem_nil, or_false] at hr
    rcases hr with rfl | rfl | rfl | rfl | rfl <;> exact ⟨by decide, by decide, by decide, by decide⟩
  ports := by decide
  links := by decide
  rules := by decide
  id := by
    intro r hr
    simp only [netN, List.mem_cons, List.not_mem_nil, or_false] at hr
    rcases hr with rfl | rfl | rfl | rfl | rfl <;> exact ⟨by decide, by decide⟩
theorem net_calls : PCalls Tryz.prog 61 [] (nwAV netN flN) := by
  refine pbody Tryz.func61 rfl (N := 26) rfl rfl (by simp) (by simp [noIds]) fun σ => ?_
  (try ((first | with_reducible refine dops_go ?_ | with_reducible refine OKv_go ?_ | with_reducible refine OKr_go ?_); simp [-cellOK, new_m, set_m, new_nx'])); repeat' (first | refine awp_seq ?_ | refine awp_block ?_ | (refine awp_skip ?_; try simp) | (refine awp_exit ?_; try simp) | (refine awp_ret ?_; try simp) | ((first | refine awp_reg ?_ | refine awp_drawT (fun _ => false) mixed (by decide +kernel) ?_ | refine awp_drawT isCallO mixed (by decide +kernel) ?_); simp [-cellOK, new_m, set_m, new_nx']) | (refine guarded_split ?_ ?_ <;> (intro hg; simp only [hg]; simp [-cellOK, new_m, set_m, new_nx'])) | (apply awp_cond_t; focus (simp [-cellOK, new_m, set_m, new_nx']; done)) | (apply awp_cond_f; focus (simp [-cellOK, new_m, set_m, new_nx']; done)) | (refine awp_cond ?_; simp [-cellOK, new_m, set_m, new_nx']; refine ⟨?_, ?_⟩ <;> intro hc) | fail)
  refine retP_give (x := .agg [.rs ⟨3, σ.nx 3, 1⟩ 0 3, .rs ⟨10, σ.nx 10, 4⟩ 0 2, .rs ⟨22, σ.nx 22, 7⟩ 0 5]) (.inr rfl) (by repeat (first | assumption | exact Ext.refl _ | refine ext_new' ?_ | refine Ext.setF ?_ (by first | assumption | (simp [new_nx', St.set, fresh_none]; done) | exact ext_fresh (by assumption)))) ?_ ?_
  · simp [new_m, set_m, new_nx']
  · simp [giveUps, giveUp, fresh_none, new_m, set_m, new_nx', nwAV, intsAV, linksAV, rulesAV, netN, flN, iAV, lkAV, ruAV]
def aq1 : Qy := ⟨0, 0, 2, 0, ⟨5, 30⟩, ⟨#[]⟩⟩
def aq2 : Qy := ⟨4, 0, 2, 1, ⟨0, 4294967295⟩, ⟨#[]⟩⟩
def aq3 : Qy := ⟨1, 0, 0, 0, ⟨0, 59⟩, ⟨#[]⟩⟩
theorem run_a1 : runQ netN netN aq1 = (⟨false, 0, 20, ⟨[0, 1, 2], 2, ⟨0, 0⟩⟩⟩, 0) := by decide +kernel
theorem run_a2 : runQ netN netN aq2 = (⟨true, 0, 0, noTk⟩, 0) := by decide +kernel
theorem run_a3 : runQ netN netN aq3 = (⟨false, 0, 50, ⟨[0, 1, 0], 4, ⟨0, 0⟩⟩⟩, 0) := by decide +kernel
theorem alive12_calls : PCalls Tryz.prog 14 [] (.raw (.bool true)) := by
  have h1 := run_calls netN netN flN flN aq1 netN_ok netN_ok ⟨by decide, by decide, by decide, by decide⟩
  have h2 := run_calls netN netN flN flN aq2 netN_ok netN_ok ⟨by decide, by decide, by decide, by decide⟩
  have h3 := run_calls netN netN flN flN aq3 netN_ok netN_ok ⟨by decide, by decide, by decide, by decide⟩
  rw [run_a1] at h1
  rw [run_a2] at h2
  rw [run_a3] at h3
  have hn := net_calls
  have e1 : qyAV aq1 = .agg [.raw (.int .i64 0), .raw (.int .i64 0), .raw (.int .i64 2), .raw (.int .i64 0), .raw (.int .u32 5), .raw (.int .u32 30), .raw (.string ⟨#[]⟩)] := rfl
  have e2 : qyAV aq2 = .agg [.raw (.int .i64 4), .raw (.int .i64 0), .raw (.int .i64 2), .raw (.int .i64 1), .raw (.int .u32 0), .raw (.int .u32 4294967295), .raw (.string ⟨#[]⟩)] := rfl
  have e3 : qyAV aq3 = .agg [.raw (.int .i64 1), .raw (.int .i64 0), .raw (.int .i64 0), .raw (.int .i64 0), .raw (.int .u32 0), .raw (.int .u32 59), .raw (.string ⟨#[]⟩)] := rfl
  rw [e1] at h1
  rw [e2] at h2
  rw [e3] at h3
  generalize netN = N at hn h1 h2 h3
  have hnp : setPart (AV.agg [.sl 0 [] true, .sl 0 [] true, .sl 0 [] true]) 0 [intsAV N.t.ports flN.p, linksAV N.t.links flN.l, rulesAV N.rules flN.r] = nwAV N flN := rfl
  refine pbody Tryz.func14 rfl (N := 78) rfl rfl (by simp) (by simp [noIds]) fun σ => ?_
  (try ((first | with_reducible refine dops_go ?_ | with_reducible refine OKv_go ?_ | with_reducible refine OKr_go ?_); simp [-cellOK, nw_cells, nw_fold, hnp, vd0_fold, vd0_put, vd_cells, vd_fold, new_m, set_m, new_nx'])); repeat' (first | refine awp_seq ?_ | refine awp_block ?_ | (refine awp_skip ?_; try simp) | (refine awp_exit ?_; try simp) | (refine awp_ret ?_; try simp) | (refine retP_same (by simp) ?_; simp) | (refine retP_no (by simp) (by simp [noIds]) (by repeat (first | assumption | exact Ext.refl _ | refine ext_new' ?_ | refine Ext.setF ?_ (by first | assumption | (simp [new_nx', St.set, fresh_none]; done) | exact ext_fresh (by assumption)))) ?_; simp [-cellOK, nw_cells, nw_fold, hnp, vd0_fold, vd0_put, vd_cells, vd_fold, new_m, set_m, new_nx', new_m, set_m, new_nx']) | ((first | refine awp_reg ?_ | refine awp_drawT (fun _ => false) mixed (by decide +kernel) ?_ | refine awp_drawT isCallO mixed (by decide +kernel) ?_ | refine PCalls.use (hn) ?_ | refine Or.inl ⟨_, Or.inl (hn), ?_⟩ | refine PCalls.use (h1) ?_ | refine Or.inl ⟨_, Or.inl (h1), ?_⟩ | refine PCalls.use (h2) ?_ | refine Or.inl ⟨_, Or.inl (h2), ?_⟩ | refine PCalls.use (h3) ?_ | refine Or.inl ⟨_, Or.inl (h3), ?_⟩); simp [-cellOK, nw_cells, nw_fold, hnp, vd0_fold, vd0_put, vd_cells, vd_fold, new_m, set_m, new_nx']) | (refine guarded_split ?_ ?_ <;> (intro hg; simp only [hg]; simp [-cellOK, nw_cells, nw_fold, hnp, vd0_fold, vd0_put, vd_cells, vd_fold, new_m, set_m, new_nx'])) | (apply awp_cond_t; focus (simp [-cellOK, nw_cells, nw_fold, hnp, vd0_fold, vd0_put, vd_cells, vd_fold, new_m, set_m, new_nx']; done)) | (apply awp_cond_f; focus (simp [-cellOK, nw_cells, nw_fold, hnp, vd0_fold, vd0_put, vd_cells, vd_fold, new_m, set_m, new_nx']; done)) | (refine awp_cond ?_; simp [-cellOK, nw_cells, nw_fold, hnp, vd0_fold, vd0_put, vd_cells, vd_fold, new_m, set_m, new_nx']; refine ⟨?_, ?_⟩ <;> intro hc) | fail)
end Go.Proofs.YtanimmdlgmkmkaaGreat.Av


/- Queries, the plain law: what the three laws without the document's answer say. -/
namespace Go.Proofs.YtanimmdlgmkmkaaGreat.Av
set_option linter.unusedSimpArgs false
set_option linter.unusedVariables false

structure RightQ (n : Nw) (q : Qy) : Prop where
  k0 : 0 ≤ q.kind
  k5 : q.kind ≤ 5
  le : q.r.lo ≤ q.r.hi
  a : 0 ≤ q.a ∧ q.a < n.t.ports.length
  b : 0 ≤ q.b ∧ q.b < n.t.ports.length
  w : 0 ≤ q.w ∧ q.w < n.t.ports.length
  one : singleB q = true ∨ (q.a = 0 ∧ q.b = 0)
  way : q.kind = 4 ∨ q.w = 0
  oth : q.kind = 5 ∨ noOther q = true
/-- What is known of a query that is answered. -/
structure RunOK (n m : Nw) (q : Qy) (v : Vd) (M : Nw) : Prop where
  right : RightQ n q
  top : q.kind = 5 → n.t = m.t
  other : M = if q.kind = 5 then m else n
  res : (v = ⟨true, 0, 0, noTk⟩ ∧ seeks n M q (cutP [n, M] q.r) (sourcesQ n q) = none) ∨ seeks n M q (cutP [n, M] q.r) (sourcesQ n q) = some v
structure Broken (n m : Nw) (q : Qy) (v : Vd) : Prop where
  lo : q.r.lo ≤ v.addr
  hi : v.addr ≤ q.r.hi
  dev : q.kind = 5 → (traceR m v.src v.addr).2 = 0
  gen : genuineB n v.addr v.tr = true
  head : ∃ l, v.tr.path = v.src :: l
  brk : breaksQ q v.tr (traceR m v.src v.addr).1 = true
end Go.Proofs.YtanimmdlgmkmkaaGreat.Av


namespace Go.Proofs.YtanimmdlgmkmkaaGreat.Av.Zn
open Go
set_option linter.unusedSimpArgs false
set_option linter.unusedVariables false
set_option maxRecDepth 100000

attribute [ext] Rg
def zAV (z : List Rg) (full : Bool) : AV := .sl 2 (z.map rgAV) full

end Go.Proofs.YtanimmdlgmkmkaaGreat.Av.Zn


/- Zones: the functions that only look. -/
namespace Go.Proofs.YtanimmdlgmkmkaaGreat.Av.Zn
open Go
set_option linter.unusedSimpArgs false
set_option linter.unusedVariables false
set_option maxRecDepth 100000
set_option pp.maxSteps 300

/-- The bounds of a range's ends. -/
def _root_.Go.Proofs.YtanimmdlgmkmkaaGreat.Av.Rg.In (r : Rg) : Prop := 0 ≤ r.lo ∧ r.lo < 4294967296 ∧ 0 ≤ r.hi ∧ r.hi < 4294967296
def InZ (z : List Rg) : Prop := ∀ r ∈ z, r.In
def okAt (z : List Rg) (i : Nat) : Bool :=
  match z[i]? with
  | some r => decide (r.lo ≤ r.hi) && (i == 0 || match z[i - 1]? with | some p => decide (p.hi + 1 < r.lo) | none => true)
  | none => true
def rightB (z : List Rg) : Bool := (List.range z.length).all (okAt z)
end Go.Proofs.YtanimmdlgmkmkaaGreat.Av.Zn


/- Zones: more functions that only look. -/
namespace Go.Proofs.YtanimmdlgmkmkaaGreat.Av.Zn
open Go
set_option linter.unusedSimpArgs false
set_option linter.unusedVariables false
set_option maxRecDepth 100000
set_option pp.maxSteps 300

def lastHi (z : List Rg) (i : Nat) : Int := match i with | 0 => -2 | k + 1 => match z[k]? with | some r => r.hi | none => -2

def leastA (z : List Rg) : AV := match z with | [] => .tup [.raw (.int .u32 0), .raw (.bool false)] | r :: _ => .tup [.raw (.int .u32 r.lo), .raw (.bool true)]
def hasB (z : List Rg) (a : Int) : Bool := z.any fun r => decide (r.lo ≤ a) && decide (a ≤ r.hi)
def countZ (z : List Rg) : Int := (z.map fun r => r.hi - r.lo + 1).sum
end Go.Proofs.YtanimmdlgmkmkaaGreat.Av.Zn


/- Zones: searching. -/
namespace Go.Proofs.YtanimmdlgmkmkaaGreat.Av.Zn
open Go
set_option linter.unusedSimpArgs false
set_option linter.unusedVariables false
set_option maxRecDepth 100000
set_option pp.maxSteps 300

def cmpI (a b : Int) : Int := if a < b then -1 else if b < a then 1 else 0
/-- Where what is searched begins. -/
def firstGe (c : Rg → Int) (z : List Rg) : Nat := z.findIdx fun r => decide (0 ≤ c r)
end Go.Proofs.YtanimmdlgmkmkaaGreat.Av.Zn


/- Iterators: collecting what one yields. -/
namespace Go.Proofs.YtanimmdlgmkmkaaGreat.Av.Zn
open Go
set_option linter.unusedSimpArgs false
set_option linter.unusedVariables false
set_option maxRecDepth 100000
set_option pp.maxSteps 300

/-- All objects but i are as they were. -/
structure But (i : Id) (σ τ : St) : Prop where
  m : ∀ l o, l ≠ i → σ.m l = some o → τ.m l = some o
  nx : ∀ s, σ.nx s ≤ τ.nx s

end Go.Proofs.YtanimmdlgmkmkaaGreat.Av.Zn


namespace Go.Proofs.YtanimmdlgmkmkaaGreat.Av.Zn
open Go
set_option linter.unusedSimpArgs false
set_option linter.unusedVariables false
set_option maxRecDepth 100000

end Go.Proofs.YtanimmdlgmkmkaaGreat.Av.Zn


/- Zones in plain Lean: a right zone is known by what it has; joining cuts; merging; both; not. -/
namespace Go.Proofs.YtanimmdlgmkmkaaGreat.Av.Zn
set_option linter.unusedSimpArgs false
set_option linter.unusedVariables false

def MZ (z : List Rg) (a : Int) : Prop := ∃ r ∈ z, r.lo ≤ a ∧ a ≤ r.hi
theorem mz_nil {a : Int} : ¬ MZ [] a := fun ⟨_, h, _⟩ => by cases h
theorem mz_cons {r : Rg} {z : List Rg} {a : Int} : MZ (r :: z) a ↔ (r.lo ≤ a ∧ a ≤ r.hi) ∨ MZ z a := by
  constructor
  · rintro ⟨s, h, k⟩
    rcases List.mem_cons.1 h with rfl | h
    · exact .inl k
    · exact .inr ⟨s, h, k⟩
  · rintro (h | ⟨s, h, k⟩)
    · exact ⟨r, by simp, h⟩
    · exact ⟨s, by simp [h], k⟩
/-- Right, beginning above b + 1. -/
def RZ : Int → List Rg → Prop
  | _, [] => True
  | b, r :: z => b < r.lo ∧ r.lo ≤ r.hi ∧ RZ (r.hi + 1) z
theorem RZ.gt : ∀ {z : List Rg} {b a : Int}, RZ b z → MZ z a → b < a
  | [], _, _, _, h => absurd h mz_nil
  | r :: z, b, a, k, h => by
    rcases mz_cons.1 h with h | h
    · have := k.1; omega
    · have := RZ.gt k.2.2 h; have := k.1; have := k.2.1; omega
theorem RZ.ext : ∀ {x y : List Rg} {b c : Int}, RZ b x → RZ c y → (∀ a, MZ x a ↔ MZ y a) → x = y
  | [], [], _, _, _, _, _ => rfl
  | [], s :: y, _, _, _, k, h => absurd ((h s.lo).2 (mz_cons.2 (.inl ⟨Int.le_refl _, k.2.1⟩))) mz_nil
  | r :: x, [], _, _, k, _, h => absurd ((h r.lo).1 (mz_cons.2 (.inl ⟨Int.le_refl _, k.2.1⟩))) mz_nil
  | r :: x, s :: y, b, c, k, l, h => by
    obtain ⟨k1, k2, k3⟩ := k
    obtain ⟨l1, l2, l3⟩ := l
    have gx : ∀ {a}, MZ x a → r.hi + 1 < a := fun h => RZ.gt k3 h
    have gy : ∀ {a}, MZ y a → s.hi + 1 < a := fun h => RZ.gt l3 h
    have hlo : r.lo = s.lo := by
      have h1 := (h r.lo).1 (mz_cons.2 (.inl ⟨Int.le_refl _, k2⟩))
      have h2 := (h s.lo).2 (mz_cons.2 (.inl ⟨Int.le_refl _, l2⟩))
      rcases mz_cons.1 h1 with h1 | h1 <;> rcases mz_cons.1 h2 with h2 | h2
      · omega
      · have := gx h2; omega
      · have := gy h1; omega
      · have := gx h2; have := gy h1; omega
    have hhi : r.hi = s.hi := by
      rcases Int.lt_trichotomy r.hi s.hi with hl | hl | hl
      · have h1 := (h (r.hi + 1)).2 (mz_cons.2 (.inl ⟨by omega, by omega⟩))
        rcases mz_cons.1 h1 with h1 | h1
        · omega
        · have := gx h1; omega
      · exact hl
      · have h1 := (h (s.hi + 1)).1 (mz_cons.2 (.inl ⟨by omega, by omega⟩))
        rcases mz_cons.1 h1 with h1 | h1
        · omega
        · have := gy h1; omega
    have he : r = s := Rg.ext hlo hhi
    subst he
    congr 1
    refine RZ.ext k3 l3 fun a => ⟨fun ha => ?_, fun ha => ?_⟩
    · rcases mz_cons.1 ((h a).1 (mz_cons.2 (.inr ha))) with h1 | h1
      · have := gx ha; omega
      · exact h1
    · rcases mz_cons.1 ((h a).2 (mz_cons.2 (.inr ha))) with h1 | h1
      · have := gy ha; omega
      · exact h1

theorem RZ.at : ∀ {z : List Rg} {b : Int}, RZ b z → ∀ i r, z[i]? = some r → b < r.lo ∧ r.lo ≤ r.hi ∧ ∀ s, z[i + 1]? = some s → r.hi + 1 < s.lo
  | [], _, _, _, _, h => by simp at h
  | r :: z, b, k, 0, s, h => by
    simp at h; subst h
    refine ⟨k.1, k.2.1, fun s hs => ?_⟩
    cases z with
    | nil => simp at hs
    | cons t z => simp at hs; subst hs; exact k.2.2.1
  | r :: z, b, k, i + 1, s, h => by
    have := RZ.at k.2.2 i s (by simpa using h)
    refine ⟨by have := k.1; have := k.2.1; omega, this.2.1, fun t ht => this.2.2 t (by simpa using ht)⟩
/-! ### Merging what is sorted -/
def mg : Rg → List Rg → List Rg
  | r, [] => [r]
  | r, x :: l => if x.lo ≤ r.hi + 1 then mg ⟨r.lo, max r.hi x.hi⟩ l else r :: mg x l
def mergeZ : List Rg → List Rg
  | [] => []
  | r :: l => mg r l
/-! ### Both, and not -/
def andZ : List Rg → List Rg → List Rg
  | r :: x, s :: y => (if max r.lo s.lo ≤ min r.hi s.hi then [⟨max r.lo s.lo, min r.hi s.hi⟩] else []) ++ if r.hi < s.hi then andZ x (s :: y) else andZ (r :: x) y
  | _, _ => []
termination_by x y => x.length + y.length
def notZ : Int → List Rg → List Rg
  | b, [] => if b ≤ 4294967295 then [⟨b, 4294967295⟩] else []
  | b, r :: z => (if b < r.lo then [⟨b, r.lo - 1⟩] else []) ++ notZ (r.hi + 1) z
end Go.Proofs.YtanimmdlgmkmkaaGreat.Av.Zn


/- label: clones, a network of one's own, what becomes at a device. -/
namespace Go.Proofs.YtanimmdlgmkmkaaGreat.Av
open Go
set_option linter.unusedSimpArgs false
set_option linter.unusedVariables false
set_option maxRecDepth 100000
set_option maxHeartbeats 4000000
set_option pp.maxSteps 600

/-- What becomes at a device of an address. -/
def atI (n : Nw) (d a : Int) : Int := if (stepF n d a).1 = 2 then -3 else if (stepF n d a).1 = 1 then -2 else if (stepF n d a).1 = 0 then -1 else (stepF n d a).2.port
/-- A device's labels. -/
def rowL (n : Nw) (T : Option Tab) (d : Int) : List Int := (List.range (T.getD newTab).b.sz.toNat).map fun i : Nat => atI n d ((atomT T i).getD ⟨0, 0⟩).lo
end Go.Proofs.YtanimmdlgmkmkaaGreat.Av


/- label.Of. -/
namespace Go.Proofs.YtanimmdlgmkmkaaGreat.Av
open Go
set_option linter.unusedSimpArgs false
set_option linter.unusedVariables false
set_option maxRecDepth 100000
set_option maxHeartbeats 4000000
set_option pp.maxSteps 600

/-- Labels: a network, its atoms, the rows. -/
structure Lab where
  n : Nw
  t : Option Tab
  rows : List (List Int)
def inAV (l : List Int) : AV := intsAV l false
def labC (L : Lab) : List AV := [intsAV L.n.t.ports false, linksAV L.n.t.links false, rulesAV L.n.rules false, tabO L.t, .sl 1 (L.rows.map inAV) false]
def labO : Option Lab → AV
  | none => .raw (.pointer none)
  | some L => .pp (labC L) 0
/-- The atoms of rules. -/
def tabL (l : List Ru) : Option Tab := l.foldl (fun T x => (addT T x.r).1) (some newTab)
def labOf (n : Nw) : Lab := ⟨n, tabL n.rules, (List.range n.t.ports.length).map fun d : Nat => rowL n (tabL n.rules) d⟩
def ofL (n : Nw) : Option Lab × Int := if rightN n then (some (labOf n), 0) else (none, 71)
end Go.Proofs.YtanimmdlgmkmkaaGreat.Av


/- label: what labels tell. -/
namespace Go.Proofs.YtanimmdlgmkmkaaGreat.Av
open Go
set_option linter.unusedSimpArgs false
set_option linter.unusedVariables false
set_option maxRecDepth 100000
set_option maxHeartbeats 4000000
set_option pp.maxSteps 600

def atLab (L : Lab) (d a : Int) : Option Int := if 0 ≤ d ∧ 0 ≤ a then (L.rows[d.toNat]?).bind fun r => r[a.toNat]? else none
end Go.Proofs.YtanimmdlgmkmkaaGreat.Av


/- label: the document's answer at a device. -/
namespace Go.Proofs.YtanimmdlgmkmkaaGreat.Av
open Go
set_option linter.unusedSimpArgs false
set_option linter.unusedVariables false
set_option maxRecDepth 100000
set_option maxHeartbeats 4000000
set_option pp.maxSteps 600

def refAtI (n : Nw) (d a : Int) : Int := if (refStepF n d a).1 = 2 then -3 else if (refStepF n d a).1 = 1 then -2 else if (refStepF n d a).1 = 0 then -1 else (refStepF n d a).2.port
end Go.Proofs.YtanimmdlgmkmkaaGreat.Av


/- label: a rule's place by its ID; a list without one of its rules; a network of one's own whose rules may be written. -/
namespace Go.Proofs.YtanimmdlgmkmkaaGreat.Av
open Go
set_option linter.unusedSimpArgs false
set_option linter.unusedVariables false
set_option maxRecDepth 100000
set_option maxHeartbeats 4000000
set_option pp.maxSteps 600

/-- Where what is searched begins. -/
def firstGe (c : Ru → Int) (z : List Ru) : Nat := z.findIdx fun r => decide (0 ≤ c r)
/-- A rule's place by its ID. -/
def placeI (z : List Ru) (id : Int) : Nat := firstGe (fun r => cmpI r.id id) z
def hereI (z : List Ru) (id : Int) : Bool := match z[placeI z id]? with | some r => decide (r.id = id) | none => false
def ru0 : Ru := ⟨0, 0, 0, 0, ⟨0, 0⟩, 0⟩
end Go.Proofs.YtanimmdlgmkmkaaGreat.Av


/- label: labels of a network that differs by a rule. -/
namespace Go.Proofs.YtanimmdlgmkmkaaGreat.Av
open Go
set_option linter.unusedSimpArgs false
set_option linter.unusedVariables false
set_option maxRecDepth 100000
set_option maxHeartbeats 4000000
set_option pp.maxSteps 600

/-- A row for other atoms. -/
def movedL (L : Lab) (T : Option Tab) (d : Nat) : List Int := (List.range (T.getD newTab).b.sz.toNat).map fun i : Nat => ((L.rows[d]?).bind fun r => r[(ofT L.t ((atomT T i).getD ⟨0, 0⟩).lo).toNat]?).getD 0
end Go.Proofs.YtanimmdlgmkmkaaGreat.Av


/- label: labels of a network that differs by a rule; Delete. -/
namespace Go.Proofs.YtanimmdlgmkmkaaGreat.Av
open Go
set_option linter.unusedSimpArgs false
set_option linter.unusedVariables false
set_option maxRecDepth 100000
set_option maxHeartbeats 4000000
set_option pp.maxSteps 600

def withRow (L : Lab) (n : Nw) (T : Option Tab) (dev : Int) (d : Nat) : List Int := if (d : Int) = dev then rowL n T d else movedL L T d
def withLab (L : Lab) (n : Nw) (T : Option Tab) (dev : Int) : Lab := ⟨n, T, (List.range n.t.ports.length).map (withRow L n T dev)⟩
end Go.Proofs.YtanimmdlgmkmkaaGreat.Av


/- label: all over an atom the same becomes of a packet (plain laws). -/
namespace Go.Proofs.YtanimmdlgmkmkaaGreat.Av
open Go
set_option linter.unusedSimpArgs false
set_option linter.unusedVariables false

end Go.Proofs.YtanimmdlgmkmkaaGreat.Av


/- label: labels that stand for a network (plain laws). -/
namespace Go.Proofs.YtanimmdlgmkmkaaGreat.Av
open Go
set_option linter.unusedSimpArgs false
set_option linter.unusedVariables false

def rgsN (n : Nw) : List Rg := n.rules.map (·.r)
/-- A device's labels, by the cuts of the rules' ranges. -/
def rowC (n : Nw) (d : Nat) : List Int := (atomsC (cutsL (rgsN n))).map fun r => atI n d r.lo
/-- Labels that stand for a network. -/
structure LabRep (L : Lab) (n : Nw) : Prop where
  net : L.n = n
  ok : NwOK n
  right : rightN n = true
  rep : TabRep (L.t.getD newTab) (rgsN n)
  rows : L.rows = (List.range n.t.ports.length).map (rowC n)

end Go.Proofs.YtanimmdlgmkmkaaGreat.Av


/- label: Delete. -/
namespace Go.Proofs.YtanimmdlgmkmkaaGreat.Av
open Go
set_option linter.unusedSimpArgs false
set_option linter.unusedVariables false
set_option maxRecDepth 100000
set_option maxHeartbeats 4000000
set_option pp.maxSteps 600

def delN (n : Nw) (id : Int) : Nw := ⟨n.t, n.rules.eraseIdx (placeI n.rules id)⟩
def delR (n : Nw) (id : Int) : Ru := (n.rules[placeI n.rules id]?).getD ru0
def delLab (L : Lab) (n : Nw) (id : Int) : Lab := withLab L (delN n id) (dropT L.t (delR n id).r).1 (delR n id).dev
end Go.Proofs.YtanimmdlgmkmkaaGreat.Av


/- label: the live question. -/
namespace Go.Proofs.YtanimmdlgmkmkaaGreat.Av
open Go
set_option linter.unusedSimpArgs false
set_option linter.unusedVariables false
set_option maxRecDepth 100000
set_option maxHeartbeats 4000000
set_option pp.maxSteps 600

end Go.Proofs.YtanimmdlgmkmkaaGreat.Av


/- label: the network of labels; no labels; the law LabelNil walked. -/
namespace Go.Proofs.YtanimmdlgmkmkaaGreat.Av
open Go
set_option linter.unusedSimpArgs false
set_option linter.unusedVariables false
set_option maxRecDepth 100000
set_option maxHeartbeats 4000000
set_option pp.maxSteps 600

def nw0AV : AV := .agg [.sl 0 [] true, .sl 0 [] true, .sl 0 [] true]
end Go.Proofs.YtanimmdlgmkmkaaGreat.Av

