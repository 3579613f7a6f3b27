/- Probe: ProbeNil Part 9 of 14: AvN23, AvN24, AvN16, AvN31, AvN33, AvL1, AvB1, AvB2, AvB3, AvB4, AvB5, AvB6, AvB7, AvB8, AvB9, AvBA, AvBB, AvZ1, AvZ2, AvZ4, AvZ5, AvZ6, AvZ3, AvP3. -/
import Derived.Test.YtanimmdlgmkmkaaPn6
import Derived.Test.YtanimmdlgmkmkaaPn7
import Derived.Test.YtanimmdlgmkmkaaPn8

/- Networks: right topologies, by the document; the first two stretches. -/
namespace Go.Proofs.Ytanimmdlgmkmkaa.Av
open Go
set_option linter.unusedSimpArgs false
set_option linter.unusedVariables false
set_option maxRecDepth 100000
set_option pp.maxSteps 600

/-- The document's right topologies: few ports, all links' ports there, none joined twice. -/
def nodupB : List Pt → Bool
  | [] => true
  | p :: l => !l.contains p && nodupB l
def refRightT (t : Tp) : Bool := !decide (t.ports.length < 1) && (!decide (8 < t.ports.length) && (!decide (16 < t.links.length) && (t.ports.all (fun n => decide (1 ≤ n) && decide (n ≤ 4)) && ((flatP t.links).all (hasB t) && nodupB (flatP t.links)))))
end Go.Proofs.Ytanimmdlgmkmkaa.Av


/- Networks: ref topo.Right (begun). -/
namespace Go.Proofs.Ytanimmdlgmkmkaa.Av
open Go
set_option linter.unusedSimpArgs false
set_option linter.unusedVariables false
set_option maxRecDepth 100000
set_option maxHeartbeats 2000000
set_option pp.maxSteps 600

end Go.Proofs.Ytanimmdlgmkmkaa.Av


/- Networks: the document's right rules, all of them. -/
namespace Go.Proofs.Ytanimmdlgmkmkaa.Av
open Go
set_option linter.unusedSimpArgs false
set_option linter.unusedVariables false
set_option maxRecDepth 100000
set_option maxHeartbeats 2000000
set_option pp.maxSteps 300

/-- The ID ahead of the place i. -/
def idAt (l : List Ru) (i : Nat) : Int := match i with | 0 => 0 | k + 1 => match l[k]? with | some r => r.id | none => 0
end Go.Proofs.Ytanimmdlgmkmkaa.Av


/- The laws' own functions: right networks, such as are asked about, the live question of queries. -/
namespace Go.Proofs.Ytanimmdlgmkmkaa.Av
open Go
set_option linter.unusedSimpArgs false
set_option linter.unusedVariables false
set_option maxRecDepth 100000
set_option maxHeartbeats 4000000
set_option pp.maxSteps 600

def fits09 (n : Nw) : Bool := !decide (20 < n.t.ports.length) && (!decide (40 < n.t.links.length) && (!decide (60 < n.rules.length) && rightN n))
/-- What is known of a network before its sizes are. -/
structure NwW (n : Nw) : Prop where
  rg : ∀ r ∈ n.rules, RgOK r.r
  id : ∀ r ∈ n.rules, -9223372036854775808 ≤ r.id ∧ r.id < 9223372036854775808
theorem NwOK.w {n : Nw} (h : NwOK n) : NwW n := ⟨h.rg, h.id⟩
theorem NwW.small {n : Nw} (h : NwW n) (h1 : ¬ 20 < n.t.ports.length) (h2 : ¬ 40 < n.t.links.length) (h3 : ¬ 60 < n.rules.length) : NwOK n where
  rg := h.rg
  id := h.id
  ports := by omega
  links := by omega
  rules := by omega
theorem NwW.fits {n : Nw} (h : NwW n) (hf : fits09 n = true) : NwOK n := by
  unfold fits09 at hf
  simp only [Bool.and_eq_true, Bool.not_eq_true', decide_eq_false_iff_not] at hf
  exact h.small hf.1 hf.2.1 hf.2.2.1
def nw2AV (n m : Nw) (f g : Fl) : AV := .agg ((nwAV n f).cells ++ (nwAV m g).cells)
def fits12 (n m : Nw) (q : Qy) : Bool := fits09 n && (fits09 m && decide (q.other.size ≤ 60))
/-- The network of the live questions. -/
def netN : Nw := ⟨⟨[2, 3, 2], [⟨⟨0, 1⟩, ⟨1, 0⟩⟩, ⟨⟨1, 1⟩, ⟨2, 0⟩⟩]⟩, [⟨1, 0, 0, 0, ⟨0, 99⟩, 1⟩, ⟨2, 1, 0, 0, ⟨0, 49⟩, 1⟩, ⟨3, 1, 0, 0, ⟨50, 59⟩, 0⟩, ⟨4, 2, 0, 0, ⟨0, 29⟩, 1⟩, ⟨5, 2, 0, 3, ⟨20, 24⟩, 0⟩]⟩
def flN : Fl := ⟨false, false, false⟩
theorem netN_ok : NwOK netN where
  rg := by
    intro r hr
    simp only [netN, List.mem_cons, List.not_mem_nil, or_false] at hr
    rcases hr with rfl | rfl | rfl | rfl | rfl <;> exact ⟨by decide, by decide, by decide, by decide⟩
  ports := by decide
  links := by decide
  rules := by decide
  id := by
    intro r hr
    simp only [netN, List.mem_cons, List.not_mem_nil, or_false] at hr
    rcases hr with rfl | rfl | rfl | rfl | rfl <;> exact ⟨by decide, by decide⟩
theorem net_calls : PCalls Try.prog 36 [] (nwAV netN flN) := by
  refine pbody Try.func36 rfl (N := 26) rfl rfl (by simp) (by simp [noIds]) fun σ => ?_
  (try ((first | with_reducible refine dops_go ?_ | with_reducible refine OKv_go ?_ | with_reducible refine OKr_go ?_); simp [-cellOK, new_m, set_m, new_nx'])); repeat' (first | refine awp_seq ?_ | refine awp_block ?_ | (refine awp_skip ?_; try simp) | (refine awp_exit ?_; try simp) | (refine awp_ret ?_; try simp) | ((first | refine awp_reg ?_ | refine awp_drawT (fun _ => false) mixed (by decide +kernel) ?_ | refine awp_drawT isCallO mixed (by decide +kernel) ?_); simp [-cellOK, new_m, set_m, new_nx']) | (refine guarded_split ?_ ?_ <;> (intro hg; simp only [hg]; simp [-cellOK, new_m, set_m, new_nx'])) | (apply awp_cond_t; focus (simp [-cellOK, new_m, set_m, new_nx']; done)) | (apply awp_cond_f; focus (simp [-cellOK, new_m, set_m, new_nx']; done)) | (refine awp_cond ?_; simp [-cellOK, new_m, set_m, new_nx']; refine ⟨?_, ?_⟩ <;> intro hc) | fail)
  refine retP_give (x := .agg [.rs ⟨3, σ.nx 3, 1⟩ 0 3, .rs ⟨10, σ.nx 10, 4⟩ 0 2, .rs ⟨22, σ.nx 22, 7⟩ 0 5]) (.inr rfl) (by repeat (first | assumption | exact Ext.refl _ | refine ext_new' ?_ | refine Ext.setF ?_ (by first | assumption | (simp [new_nx', St.set, fresh_none]; done) | exact ext_fresh (by assumption)))) ?_ ?_
  · simp [new_m, set_m, new_nx']
  · simp [giveUps, giveUp, fresh_none, new_m, set_m, new_nx', nwAV, intsAV, linksAV, rulesAV, netN, flN, iAV, lkAV, ruAV]
def aq1 : Qy := ⟨0, 0, 2, 0, ⟨5, 30⟩, ⟨#[]⟩⟩
def aq2 : Qy := ⟨4, 0, 2, 1, ⟨0, 4294967295⟩, ⟨#[]⟩⟩
def aq3 : Qy := ⟨1, 0, 0, 0, ⟨0, 59⟩, ⟨#[]⟩⟩
end Go.Proofs.Ytanimmdlgmkmkaa.Av


/- Queries, the plain law: what the three laws without the document's answer say. -/
namespace Go.Proofs.Ytanimmdlgmkmkaa.Av
set_option linter.unusedSimpArgs false
set_option linter.unusedVariables false

structure RightQ (n : Nw) (q : Qy) : Prop where
  k0 : 0 ≤ q.kind
  k5 : q.kind ≤ 5
  le : q.r.lo ≤ q.r.hi
  a : 0 ≤ q.a ∧ q.a < n.t.ports.length
  b : 0 ≤ q.b ∧ q.b < n.t.ports.length
  w : 0 ≤ q.w ∧ q.w < n.t.ports.length
  one : singleB q = true ∨ (q.a = 0 ∧ q.b = 0)
  way : q.kind = 4 ∨ q.w = 0
  oth : q.kind = 5 ∨ noOther q = true
/-- What is known of a query that is answered. -/
structure RunOK (n m : Nw) (q : Qy) (v : Vd) (M : Nw) : Prop where
  right : RightQ n q
  top : q.kind = 5 → n.t = m.t
  other : M = if q.kind = 5 then m else n
  res : (v = ⟨true, 0, 0, noTk⟩ ∧ seeks n M q (cutP [n, M] q.r) (sourcesQ n q) = none) ∨ seeks n M q (cutP [n, M] q.r) (sourcesQ n q) = some v
structure Broken (n m : Nw) (q : Qy) (v : Vd) : Prop where
  lo : q.r.lo ≤ v.addr
  hi : v.addr ≤ q.r.hi
  dev : q.kind = 5 → (traceR m v.src v.addr).2 = 0
  gen : genuineB n v.addr v.tr = true
  head : ∃ l, v.tr.path = v.src :: l
  brk : breaksQ q v.tr (traceR m v.src v.addr).1 = true
end Go.Proofs.Ytanimmdlgmkmkaa.Av


/- label: clones, a network of one's own, what becomes at a device. -/
namespace Go.Proofs.Ytanimmdlgmkmkaa.Av
open Go
set_option linter.unusedSimpArgs false
set_option linter.unusedVariables false
set_option maxRecDepth 100000
set_option maxHeartbeats 4000000
set_option pp.maxSteps 600

theorem pcalls_nil {P : Program} {f : FuncId} {sz : Nat} {fl : Bool} {r : AV} (h : ∀ b cap, PCalls P f [.raw (.slice b 0 cap)] r) : PCalls P f [.sl sz [] fl] r :=
  ⟨(h none 0).1, fun σ => acalls_nil fun b cap => (h b cap).2 σ⟩
theorem ok_ints : ∀ z : List Int, cellsOK (cellsL (z.map iAV)) = true := fun z => by
  induction z with
  | nil => rfl
  | cons r z ih => simp [cellsL, iAV, cellsOK, cellOK] at ih ⊢; try exact ih
theorem intClone_calls (l : List Int) (f : Bool) (hl : l.length < 2 ^ 44) : PCalls Try.prog 54 [intsAV l f] (intsAV l false) := by
  cases l with
  | nil =>
    simp only [intsAV, List.map_nil]
    refine pcalls_nil fun b cap => ?_
    refine pbody Try.func54 rfl (N := 8) rfl rfl (by simp) (by simp [noIds]) fun σ => ?_
    cases b with
    | none =>
      (try ((first | with_reducible refine dops_go ?_ | with_reducible refine OKv_go ?_ | with_reducible refine OKr_go ?_); simp [-cellOK])); repeat' (first | refine awp_seq ?_ | refine awp_block ?_ | (refine awp_skip ?_; try simp) | (refine awp_exit ?_; try simp) | (refine awp_ret ?_; try simp) | ((first | refine awp_reg ?_ | refine awp_drawT (fun _ => false) mixed (by decide +kernel) ?_ | refine awp_drawT isCallO mixed (by decide +kernel) ?_); simp [-cellOK]) | (refine guarded_split ?_ ?_ <;> (intro hg; simp only [hg]; simp [-cellOK])) | (apply awp_cond_t; focus (simp [-cellOK]; done)) | (apply awp_cond_f; focus (simp [-cellOK]; done)) | (refine awp_cond ?_; simp [-cellOK]; refine ⟨?_, ?_⟩ <;> intro hc) | fail)
      exact retP_weak (x := .sl 0 [] true) (.inr rfl) (by repeat (first | assumption | exact Ext.refl _ | refine ext_new' ?_ | refine Ext.setF ?_ (by first | assumption | (simp [new_nx', St.set, fresh_none]; done) | exact ext_fresh (by assumption)))) (by simp) (by simp only [giveUps, giveUp]; exact weaker_sl)
    | some b =>
      (try ((first | with_reducible refine dops_go ?_ | with_reducible refine OKv_go ?_ | with_reducible refine OKr_go ?_); simp [-cellOK, -opAppend])); repeat' (first | refine awp_seq ?_ | refine awp_block ?_ | (refine awp_skip ?_; try simp) | (refine awp_exit ?_; try simp) | (refine awp_ret ?_; try simp) | ((first | refine awp_reg ?_ | refine awp_drawT (fun _ => false) mixed (by decide +kernel) ?_ | refine awp_drawT isCallO mixed (by decide +kernel) ?_); simp [-cellOK, -opAppend]) | (refine guarded_split ?_ ?_ <;> (intro hg; simp only [hg]; simp [-cellOK, -opAppend])) | (apply awp_cond_t; focus (simp [-cellOK, -opAppend]; done)) | (apply awp_cond_f; focus (simp [-cellOK, -opAppend]; done)) | (refine awp_cond ?_; simp [-cellOK, -opAppend]; refine ⟨?_, ?_⟩ <;> intro hc) | fail)
      refine okr_append slt22 (σ0 := σ) (es := []) (OwnL.of rfl (by simp) (fresh_none _ _ _) rfl) (Ext.new _ _ _ _) (ys := []) (by simp) (.inl rfl) rfl (by simp) ?_
      intro v1 τ1 hO1 hE1 _ _
      rw [List.nil_append] at hO1
      (try ((first | with_reducible refine dops_go ?_ | with_reducible refine OKv_go ?_ | with_reducible refine OKr_go ?_); simp [-cellOK, -opAppend])); repeat' (first | refine awp_seq ?_ | refine awp_block ?_ | (refine awp_skip ?_; try simp) | (refine awp_exit ?_; try simp) | (refine awp_ret ?_; try simp) | ((first | refine awp_reg ?_ | refine awp_drawT (fun _ => false) mixed (by decide +kernel) ?_ | refine awp_drawT isCallO mixed (by decide +kernel) ?_); simp [-cellOK, -opAppend]) | (refine guarded_split ?_ ?_ <;> (intro hg; simp only [hg]; simp [-cellOK, -opAppend])) | (apply awp_cond_t; focus (simp [-cellOK, -opAppend]; done)) | (apply awp_cond_f; focus (simp [-cellOK, -opAppend]; done)) | (refine awp_cond ?_; simp [-cellOK, -opAppend]; refine ⟨?_, ?_⟩ <;> intro hc) | fail)
      exact retP_own (v := v1) (.inr rfl) (by simp) hO1 hE1
  | cons r l =>
    refine pbody Try.func54 rfl (N := 8) rfl rfl (by simp) (by simp [noIds]) fun σ => ?_
    (try ((first | with_reducible refine dops_go ?_ | with_reducible refine OKv_go ?_ | with_reducible refine OKr_go ?_); simp [-cellOK, intsAV, -opAppend])); repeat' (first | refine awp_seq ?_ | refine awp_block ?_ | (refine awp_skip ?_; try simp) | (refine awp_exit ?_; try simp) | (refine awp_ret ?_; try simp) | ((first | refine awp_reg ?_ | refine awp_drawT (fun _ => false) mixed (by decide +kernel) ?_ | refine awp_drawT isCallO mixed (by decide +kernel) ?_); simp [-cellOK, intsAV, -opAppend]) | (refine guarded_split ?_ ?_ <;> (intro hg; simp only [hg]; simp [-cellOK, intsAV, -opAppend])) | (apply awp_cond_t; focus (simp [-cellOK, intsAV, -opAppend]; done)) | (apply awp_cond_f; focus (simp [-cellOK, intsAV, -opAppend]; done)) | (refine awp_cond ?_; simp [-cellOK, intsAV, -opAppend]; refine ⟨?_, ?_⟩ <;> intro hc) | fail)
    refine okr_append slt22 (σ0 := σ) (es := []) (OwnL.of rfl (by simp) (fresh_none _ _ _) rfl) (Ext.new _ _ _ _) (ys := (r :: l).map iAV) (by simp) (.inr rfl) (ok_ints _) (by simp at hl ⊢; omega) ?_
    intro v1 τ1 hO1 hE1 _ _
    rw [List.nil_append] at hO1
    (try ((first | with_reducible refine dops_go ?_ | with_reducible refine OKv_go ?_ | with_reducible refine OKr_go ?_); simp [-cellOK, -opAppend])); repeat' (first | refine awp_seq ?_ | refine awp_block ?_ | (refine awp_skip ?_; try simp) | (refine awp_exit ?_; try simp) | (refine awp_ret ?_; try simp) | ((first | refine awp_reg ?_ | refine awp_drawT (fun _ => false) mixed (by decide +kernel) ?_ | refine awp_drawT isCallO mixed (by decide +kernel) ?_); simp [-cellOK, -opAppend]) | (refine guarded_split ?_ ?_ <;> (intro hg; simp only [hg]; simp [-cellOK, -opAppend])) | (apply awp_cond_t; focus (simp [-cellOK, -opAppend]; done)) | (apply awp_cond_f; focus (simp [-cellOK, -opAppend]; done)) | (refine awp_cond ?_; simp [-cellOK, -opAppend]; refine ⟨?_, ?_⟩ <;> intro hc) | fail)
    exact retP_own (v := v1) (.inr rfl) (by simp) hO1 hE1

/-- What becomes at a device of an address. -/
def atI (n : Nw) (d a : Int) : Int := if (stepF n d a).1 = 2 then -3 else if (stepF n d a).1 = 1 then -2 else if (stepF n d a).1 = 0 then -1 else (stepF n d a).2.port
/-- A device's labels. -/
def rowL (n : Nw) (T : Option Tab) (d : Int) : List Int := (List.range (T.getD newTab).b.sz.toNat).map fun i : Nat => atI n d ((atomT T i).getD ⟨0, 0⟩).lo
end Go.Proofs.Ytanimmdlgmkmkaa.Av


/- Probes: one device of a trace. -/
namespace Go.Proofs.Ytanimmdlgmkmkaa.Av
open Go
set_option linter.unusedSimpArgs false
set_option linter.unusedVariables false
set_option maxRecDepth 100000
set_option maxHeartbeats 4000000
set_option pp.maxSteps 600

/-- A list of one's own, lent to a call that reads. -/
theorem rcalls_own {P : Program} {f : FuncId} {σ0 σ : St} {n : Nat} {a v r : AV} {es : List AV} (h : PCalls P f [.sl n es false, a] r) (hr : r.plain = true) (hO : OwnP σ0 σ n v es) : RCalls P σ.m f [v, a] r := by
  rcases hO with ⟨rfl, rfl⟩ | ⟨j, rest, rfl, hj, hm, hn⟩
  · refine .inl ⟨h.1, fun σ => ACalls.args (bs := [.sl n [] false, a]) (fun S vs hl => ?_) (h.2 σ)⟩
    simp only [LRel] at hl ⊢
    obtain ⟨w, ws, e2, h2, v, us, e, h1, h3⟩ := hl
    exact ⟨w, ws, e2, weaker_sl _ _ h2, v, us, e, h1, h3⟩
  · refine .inr ⟨[.sl n es false, a], ?_, h, hr⟩
    simp only [lentL]
    exact ⟨_, _, rfl, .inr ⟨es ++ rest, hm, by simp, by simp [hj]⟩, _, _, rfl, .inl rfl, rfl⟩

/-- The cells of a probe. -/
def row34 (c : Nat → AV) : List AV := [c 0, c 1, c 2, c 3, c 4, c 5, c 6, c 7, c 8, c 9, c 10, c 11, c 12, c 13, c 14, c 15, c 16, c 17, c 18, c 19, c 20, c 21, c 22, c 23, c 24, c 25, c 26, c 27, c 28, c 29, c 30, c 31, c 32, c 33]
def upc (c : Nat → AV) (k : Nat) (x : AV) : Nat → AV := fun j => if j = k then x else c j
/-- A list of the probe's own: nothing yet, or an object. -/
def OwnB (σ : St) (v : AV) (es : List AV) : Prop := (es = [] ∧ v = .sl 0 [] true) ∨ ∃ j, v = .rs j 0 es.length ∧ j.sz = 1 ∧ σ.m j = some (.buf es)
/-- Where a list of one's own lies. -/
def isAt (v : AV) (j : Id) : Prop := ∃ l, v = .rs j 0 l
theorem OwnB.toL {σ : St} {v : AV} {es : List AV} (h : OwnB σ v es) : ∃ σ0, OwnL σ0 σ 1 v es ∧ Ext σ0 σ ∧ (∀ i o, σ.m i = some o → ¬ isAt v i → σ0.m i = some o) ∧ (∀ i, isAt v i → σ0.m i = none) ∧ (∀ i, σ.m i = none → σ0.m i = none) ∧ σ0.nx = σ.nx := by
  rcases h with ⟨rfl, rfl⟩ | ⟨j, rfl, hj, hm⟩
  · exact ⟨σ, .inl ⟨rfl, rfl⟩, Ext.refl _, fun i o h _ => h, (fun i ⟨l, e⟩ => by cases e), fun i h => h, rfl⟩
  · refine ⟨σ.del j, .inr ⟨j, rfl, hj, hm, by simp [St.del]⟩, ⟨fun i o h => ?_, fun s => Nat.le_refl _⟩, fun i o h hn => ?_, fun i hi => ?_, fun i h => ?_, rfl⟩
    · by_cases e : i = j
      · subst e; simp [St.del] at h
      · rwa [del_other e] at h
    · rw [del_other (fun e => hn ⟨es.length, by rw [e]⟩)]; exact h
    · obtain ⟨l, e⟩ := hi
      injection e with e
      subst e; simp [St.del]
    · by_cases e : i = j
      · subst e; simp [St.del]
      · rw [del_other e]; exact h
theorem OwnB.ne {σ : St} {v : AV} {es : List AV} (h : OwnB σ v es) {i : Id} (n : ¬ isAt v i) : ∀ a l, v ≠ .rs i a l := by
  rcases h with ⟨rfl, rfl⟩ | ⟨j, rfl, hj, hm⟩
  · intro a l e; cases e
  · intro a l e
    injection e with e1 e2 e3
    exact n ⟨es.length, by rw [e1]⟩
theorem OwnB.of {σ0 σ : St} {v : AV} {es : List AV} (h : OwnL σ0 σ 1 v es) : OwnB σ v es := by
  rcases h with ⟨rfl, rfl⟩ | ⟨j, rfl, hj, hm, hn⟩
  · exact .inl ⟨rfl, rfl⟩
  · exact .inr ⟨j, rfl, hj, hm⟩
theorem OwnB.cells {σ : St} {v : AV} {es : List AV} (h : OwnB σ v es) : v.cells = [v] ∧ cellOK v = true := by
  rcases h with ⟨rfl, rfl⟩ | ⟨j, rfl, hj, hm⟩
  · exact ⟨rfl, rfl⟩
  · exact ⟨rfl, rfl⟩
theorem notAt {v : AV} {i : Id} (h : ∀ a l, v ≠ .rs i a l) : ¬ isAt v i := fun ⟨l, e⟩ => h 0 l e
theorem OwnB.up {σ τ : St} {v : AV} {es : List AV} (h : OwnB σ v es) (k : ∀ i o, isAt v i → σ.m i = some o → τ.m i = some o) : OwnB τ v es := by
  rcases h with ⟨rfl, rfl⟩ | ⟨j, rfl, hj, hm⟩
  · exact .inl ⟨rfl, rfl⟩
  · exact .inr ⟨j, rfl, hj, k j _ ⟨_, rfl⟩ hm⟩
/-- All but one object as before. -/
def Ex (ip : Id) (σ τ : St) : Prop := (∀ i o, i ≠ ip → σ.m i = some o → τ.m i = some o) ∧ ∀ s, σ.nx s ≤ τ.nx s
theorem Ex.refl (ip : Id) (σ : St) : Ex ip σ σ := ⟨fun _ _ _ h => h, fun _ => Nat.le_refl _⟩
theorem Ex.trans {ip : Id} {ρ σ τ : St} (h : Ex ip ρ σ) (k : Ex ip σ τ) : Ex ip ρ τ := ⟨fun i o n e => k.1 i o n (h.1 i o n e), fun s => Nat.le_trans (h.2 s) (k.2 s)⟩
theorem Ex.set {ip : Id} {σ τ : St} (h : Ex ip σ τ) (o : Ob) : Ex ip σ (τ.set ip o) := ⟨fun i u n e => by simp [St.set, n, h.1 i u n e], fun s => h.2 s⟩
theorem Ex.new {ip : Id} {σ τ : St} (h : Ex ip σ τ) (s n : Nat) (o : Ob) : Ex ip σ (τ.new s n o) := ⟨fun i u n e => new_up _ _ (h.1 i u n e), fun s => Nat.le_trans (h.2 s) (St.new_le _ _ _ _ _)⟩
theorem Ex.ext {ip : Id} {σ τ : St} (h : Ext σ τ) : Ex ip σ τ := ⟨fun i o _ e => h.1 i o e, h.2⟩
theorem Ex.setF {ip j : Id} {σ τ : St} (h : Ex ip σ τ) (n : σ.m j = none) (o : Ob) : Ex ip σ (τ.set j o) := ⟨fun i u hn e => by
    have q : i ≠ j := fun q => by rw [q, n] at e; cases e
    simp [St.set, q, h.1 i u hn e], fun s => h.2 s⟩
theorem Ex.del {ip j : Id} {σ τ : St} (h : Ex ip σ τ) (n : σ.m j = none) : Ex ip σ (τ.del j) := ⟨fun i u hn e => by
    have q : i ≠ j := fun q => by rw [q, n] at e; cases e
    rw [del_other q]; exact h.1 i u hn e, fun s => h.2 s⟩
/-- What a probe's step leaves alone: all but its object, and its list. -/
def Kp (ip : Id) (v v' : AV) (σ τ : St) : Prop := (∀ i o, i ≠ ip → ¬ isAt v i → σ.m i = some o → τ.m i = some o ∧ ¬ isAt v' i) ∧ ∀ s, σ.nx s ≤ τ.nx s
theorem Kp.ex {ip : Id} {v v' : AV} {ρ σ τ : St} (h : Kp ip v v' ρ σ) (k : Ex ip σ τ) : Kp ip v v' ρ τ := ⟨fun i o n na e => ⟨k.1 i o n (h.1 i o n na e).1, (h.1 i o n na e).2⟩, fun s => Nat.le_trans (h.2 s) (k.2 s)⟩
theorem OwnB.ex {ip : Id} {σ τ : St} {v : AV} {es : List AV} (h : OwnB σ v es) (n : ¬ isAt v ip) (k : Ex ip σ τ) : OwnB τ v es := h.up fun i o hi e => k.1 i o (fun e => n (e ▸ hi)) e
end Go.Proofs.Ytanimmdlgmkmkaa.Av


/- Probes: one device of the first trace. -/
namespace Go.Proofs.Ytanimmdlgmkmkaa.Av
open Go
set_option linter.unusedSimpArgs false
set_option linter.unusedVariables false
set_option maxRecDepth 100000
set_option maxHeartbeats 4000000
set_option pp.maxSteps 600

theorem visitT_calls (N : Nw) (F : Fl) (hN : NwOK N) {ip : Id} (hsz : ip.sz = 34) {c : Nat → AV} {σ : St} (m : σ.m ip = some (.buf [.agg (row34 c)])) {d : Int} (c16 : c 16 = .raw (.int .i64 d)) {r : Rg} {rs : List Rg} (c15 : c 15 = rgsAV (r :: rs) false)
    {v : AV} {p : List Int} (c17 : c 17 = v) (hB : OwnB σ v (p.map iAV)) (hp : p.length < 2 ^ 43) {K : AV → St → Prop}
    (hK1 : d ∈ p → ∀ τ v', τ.m ip = some (.buf [.agg (row34 (upc (upc c 17 v') 18 (.raw (.int .i64 4))))]) → OwnB τ v' ((p ++ [d]).map iAV) → Kp ip v v' σ τ → K (.raw (.bool false)) τ)
    (hK2 : d ∉ p → (stepF N d r.lo).1 = 4 → ∀ τ v', τ.m ip = some (.buf [.agg (row34 (upc (upc (upc c 17 v') 18 (.raw (.int .i64 4))) 16 (.raw (.int .i64 (nextDev N (stepF N d r.lo).2)))))]) → OwnB τ v' ((p ++ [d]).map iAV) → Kp ip v v' σ τ → K (.raw (.bool true)) τ)
    (hK3 : d ∉ p → (stepF N d r.lo).1 ≠ 4 → ∀ τ v', τ.m ip = some (.buf [.agg (row34 (upc (upc (upc (upc c 17 v') 18 (.raw (.int .i64 (stepF N d r.lo).1))) 19 (.raw (.int .i64 (stepF N d r.lo).2.dev))) 20 (.raw (.int .i64 (stepF N d r.lo).2.port))))]) → OwnB τ v' ((p ++ [d]).map iAV) → Kp ip v v' σ τ → K (.raw (.bool false)) τ) :
    ACalls Try.prog 129 [.rp ip 0 0, nwAV N F, .rp ip 0 17] σ K := by
  obtain ⟨σ0, hO, hE0, kp1, kp2, kp3, kp4⟩ := hB.toL
  have hcon : PCalls Try.prog 42 [.sl 1 (p.map iAV) false, .raw (.int .i64 d)] (.raw (.bool (p.any fun x => decide (d = x)))) := contains_calls p false d (by omega)
  obtain ⟨b0, hb0⟩ : ∃ b, (p.any fun x => decide (d = x)) = b := ⟨_, rfl⟩
  have hb : (d ∈ p) ↔ b0 = true := by
    rw [← hb0, List.any_eq_true]
    refine ⟨fun h => ⟨d, h, by simp⟩, ?_⟩
    rintro ⟨x, hx, e⟩
    simp only [decide_eq_true_eq] at e; exact e ▸ hx
  rw [hb0] at hcon
  have hstep := step_calls N F d r.lo hN.links hN.rules
  have hnext := next_calls N.t F (stepF N d r.lo).2 hN.links
  simp only [row34] at m
  refine abody Try.func129 rfl (N := 76) rfl rfl (by simp) ?_
  have f4 : σ.m ⟨4, σ.nx 4, 3⟩ = none := fresh_none _ _ _
  have n4 : ip ≠ ⟨4, σ.nx 4, 3⟩ := fun e => by rw [e, f4] at m; cases m
  refine awp_seq ?_
  refine awp_reg ?_
  simp [-cellOK, nw_cells]
  generalize hA0 : put 76 _ _ _ = A0
  have d0 : A0 0 = .rp ip 0 0 := by rw [← hA0]; simp
  have d2 : A0 2 = .rp ip 0 17 := by rw [← hA0]; simp
  have d4 : A0 4 = .rp ⟨4, σ.nx 4, 3⟩ 0 0 := by rw [← hA0]; simp
  clear hA0
  refine awp_freeze ⟨4, σ.nx 4, 3⟩ ?_
  generalize hAA : (fun t => giveUp _ _ _) = A
  have a0 : A 0 = .rp ip 0 0 := by rw [← hAA]; show giveUp _ _ (A0 0) = _; rw [d0]; exact giveUp_rp_ne n4
  have a2 : A 2 = .rp ip 0 17 := by rw [← hAA]; show giveUp _ _ (A0 2) = _; rw [d2]; exact giveUp_rp_ne n4
  have a4 : A 4 = .pp (nwAV N F).cells 0 := by rw [← hAA]; show giveUp _ _ (A0 4) = _; rw [d4, giveUp_rp_made (es := [nwAV N F]) (e := nwAV N F) (by simp [St.del]) (by simp [St.new]) rfl]
  generalize hτ : St.del _ _ = τ
  have hm : ∀ i, τ.m i = σ.m i := by
    intro i
    rw [← hτ]
    by_cases e : i = ⟨4, σ.nx 4, 3⟩
    · subst e; rw [f4]; simp [St.del]
    · rw [del_other e, new_other e]
  have hnx : ∀ s, σ.nx s ≤ τ.nx s := fun s => by rw [← hτ]; show σ.nx s ≤ (σ.new 4 3 (.buf [nwAV N F])).nx s; exact St.new_le _ _ _ _ _
  have hEτ : Ext σ τ := ⟨fun i o h => by rw [hm]; exact h, hnx⟩
  clear hτ hAA d0 d2 d4
  have m : τ.m ip = _ := (hm ip).trans m
  have hO := hO.ext hEτ
  have hE := hE0.trans hEτ
  have nv : ¬ isAt v ip := fun ⟨l, e⟩ => hO.ne_sz (i := ip) (by rw [hsz]; decide) _ _ e
  have f0 := kp3
  refine awp_seq ?_
  refine awp_drawT isCallO mixed (by decide +kernel) ?_
  simp [-cellOK, a0, a2, m, c16, c17]
  refine .inl ⟨_, rcalls_own hcon rfl hO.toP, ?_⟩
  (try ((first | with_reducible refine dops_go ?_ | with_reducible refine OKv_go ?_ | with_reducible refine OKr_go ?_); simp [-cellOK, a0, a2, a4, m, c16, c17, -opAppend])); repeat' (first | refine awp_seq ?_ | refine awp_block ?_ | (refine awp_skip ?_; try simp) | (refine awp_exit ?_; try simp) | (refine awp_ret ?_; try simp) | (refine retP_same (by simp) ?_; simp) | (refine retP_no (by simp) (by simp [noIds]) (by repeat (first | assumption | exact Ext.refl _ | refine ext_new' ?_ | refine Ext.setF ?_ (by first | assumption | (simp [new_nx', St.set, fresh_none]; done) | exact ext_fresh (by assumption)))) ?_; simp [-cellOK, a0, a2, a4, m, c16, c17, -opAppend, new_m, set_m, new_nx']) | ((first | refine awp_reg ?_ | refine awp_drawT (fun _ => false) mixed (by decide +kernel) ?_ | refine awp_drawT isCallO mixed (by decide +kernel) ?_); simp [-cellOK, a0, a2, a4, m, c16, c17, -opAppend]) | (refine guarded_split ?_ ?_ <;> (intro hg; simp only [hg]; simp [-cellOK, a0, a2, a4, m, c16, c17, -opAppend])) | (apply awp_cond_t; focus (simp [-cellOK, a0, a2, a4, m, c16, c17, -opAppend]; done)) | (apply awp_cond_f; focus (simp [-cellOK, a0, a2, a4, m, c16, c17, -opAppend]; done)) | (refine awp_cond ?_; simp [-cellOK, a0, a2, a4, m, c16, c17, -opAppend]; refine ⟨?_, ?_⟩ <;> intro hc) | fail)
  refine okr_append slt22 (σ0 := σ0) (hO.ext (Ext.new _ _ _ _)) (hE.trans (Ext.new _ _ _ _)) (ys := [iAV d]) (by simp [new_m, new_nx', iAV]) (.inr rfl) (by simp [iAV]) (by simp; omega) fun v' τ1 hO1 hE1 kp hx1 => ?_
  have m1 := (kp ip _ (new_up _ _ m) (hB.ne nv)).1
  have nv' := notAt (kp ip _ (new_up _ _ m) (hB.ne nv)).2
  obtain ⟨vc, vo⟩ := (OwnB.of hO1).cells
  have hKp : Kp ip v v' σ τ1 := ⟨fun i o n na e => by
    have := kp i o (new_up _ _ (by rw [hm]; exact e)) (hB.ne na)
    exact ⟨this.1, notAt this.2⟩, fun s => Nat.le_trans (Nat.le_trans (hnx s) (St.new_le _ _ _ _ _)) (hx1 s)⟩
  have hB1 := OwnB.of hO1
  have hpd : (p ++ [d]).map iAV = p.map iAV ++ [iAV d] := by simp
  rw [← hpd] at hB1
  cases b0 with
  | true =>
    (try ((first | with_reducible refine dops_go ?_ | with_reducible refine OKv_go ?_ | with_reducible refine OKr_go ?_); simp [-cellOK, a0, a2, a4, m1, c16, c17, vc, vo])); repeat' (first | refine awp_seq ?_ | refine awp_block ?_ | (refine awp_skip ?_; try simp) | (refine awp_exit ?_; try simp) | (refine awp_ret ?_; try simp) | (refine retP_same (by simp) ?_; simp) | (refine retP_no (by simp) (by simp [noIds]) (by repeat (first | assumption | exact Ext.refl _ | refine ext_new' ?_ | refine Ext.setF ?_ (by first | assumption | (simp [new_nx', St.set, fresh_none]; done) | exact ext_fresh (by assumption)))) ?_; simp [-cellOK, a0, a2, a4, m1, c16, c17, vc, vo, new_m, set_m, new_nx']) | ((first | refine awp_reg ?_ | refine awp_drawT (fun _ => false) mixed (by decide +kernel) ?_ | refine awp_drawT isCallO mixed (by decide +kernel) ?_); simp [-cellOK, a0, a2, a4, m1, c16, c17, vc, vo]) | (refine guarded_split ?_ ?_ <;> (intro hg; simp only [hg]; simp [-cellOK, a0, a2, a4, m1, c16, c17, vc, vo])) | (apply awp_cond_t; focus (simp [-cellOK, a0, a2, a4, m1, c16, c17, vc, vo]; done)) | (apply awp_cond_f; focus (simp [-cellOK, a0, a2, a4, m1, c16, c17, vc, vo]; done)) | (refine awp_cond ?_; simp [-cellOK, a0, a2, a4, m1, c16, c17, vc, vo]; refine ⟨?_, ?_⟩ <;> intro hc) | fail)
    refine retK_of (.inr rfl) (by simp) (hK1 (hb.2 rfl) _ v' (by simp [set_m, m1, row34, upc, c16]) (hB1.ex nv' ?_) (hKp.ex ?_))
    all_goals exact ((Ex.refl ip τ1).set _).set _
  | false =>
    have h2 : ∀ a b, (ip = ⟨a, b, 2⟩) = False := fun a b => eq_false fun e => by rw [e] at hsz; cases hsz
    by_cases hs4 : (stepF N d r.lo).1 = 4
    · have hs4' := eq_true hs4
      (try ((first | with_reducible refine dops_go ?_ | with_reducible refine OKv_go ?_ | with_reducible refine OKr_go ?_); simp [-cellOK, a0, a2, a4, m1, c16, c17, vc, vo, c15, rgsAV, nw_cells, nw_fold, set_m, new_m, new_nx', ptAV, hs4', h2])); repeat' (first | refine awp_seq ?_ | refine awp_block ?_ | (refine awp_skip ?_; try simp) | (refine awp_exit ?_; try simp) | (refine awp_ret ?_; try simp) | (refine retP_same (by simp) ?_; simp) | (refine retP_no (by simp) (by simp [noIds]) (by repeat (first | assumption | exact Ext.refl _ | refine ext_new' ?_ | refine Ext.setF ?_ (by first | assumption | (simp [new_nx', St.set, fresh_none]; done) | exact ext_fresh (by assumption)))) ?_; simp [-cellOK, a0, a2, a4, m1, c16, c17, vc, vo, c15, rgsAV, nw_cells, nw_fold, set_m, new_m, new_nx', ptAV, hs4', h2, new_m, set_m, new_nx']) | ((first | refine awp_reg ?_ | refine awp_drawT (fun _ => false) mixed (by decide +kernel) ?_ | refine awp_drawT isCallO mixed (by decide +kernel) ?_ | refine PCalls.use (hstep) ?_ | refine Or.inl ⟨_, Or.inl (hstep), ?_⟩ | refine PCalls.use (hnext) ?_ | refine Or.inl ⟨_, Or.inl (hnext), ?_⟩); simp [-cellOK, a0, a2, a4, m1, c16, c17, vc, vo, c15, rgsAV, nw_cells, nw_fold, set_m, new_m, new_nx', ptAV, hs4', h2]) | (refine guarded_split ?_ ?_ <;> (intro hg; simp only [hg]; simp [-cellOK, a0, a2, a4, m1, c16, c17, vc, vo, c15, rgsAV, nw_cells, nw_fold, set_m, new_m, new_nx', ptAV, hs4', h2])) | (apply awp_cond_t; focus (simp [-cellOK, a0, a2, a4, m1, c16, c17, vc, vo, c15, rgsAV, nw_cells, nw_fold, set_m, new_m, new_nx', ptAV, hs4', h2]; done)) | (apply awp_cond_f; focus (simp [-cellOK, a0, a2, a4, m1, c16, c17, vc, vo, c15, rgsAV, nw_cells, nw_fold, set_m, new_m, new_nx', ptAV, hs4', h2]; done)) | (refine awp_cond ?_; simp [-cellOK, a0, a2, a4, m1, c16, c17, vc, vo, c15, rgsAV, nw_cells, nw_fold, set_m, new_m, new_nx', ptAV, hs4', h2]; refine ⟨?_, ?_⟩ <;> intro hc) | fail)
      refine retK_of (.inr rfl) (by simp) (hK2 (fun h => by cases hb.1 h) hs4 _ v' (by simp [set_m, new_m, new_nx', h2, m1, row34, upc, c15, rgsAV, nextDev]) (hB1.ex nv' ?_) (hKp.ex ?_))
      all_goals repeat (first | exact Ex.refl _ _ | refine Ex.set ?_ _ | refine Ex.new ?_ _ _ _ | refine Ex.setF ?_ (by first | exact fresh_none _ _ _ | (simp [set_m, new_m, new_nx', fresh_none]; done)) _)
    · have hs4' := eq_false hs4
      (try ((first | with_reducible refine dops_go ?_ | with_reducible refine OKv_go ?_ | with_reducible refine OKr_go ?_); simp [-cellOK, a0, a2, a4, m1, c16, c17, vc, vo, c15, rgsAV, nw_cells, nw_fold, set_m, new_m, new_nx', ptAV, hs4', h2])); repeat' (first | refine awp_seq ?_ | refine awp_block ?_ | (refine awp_skip ?_; try simp) | (refine awp_exit ?_; try simp) | (refine awp_ret ?_; try simp) | ((first | refine awp_reg ?_ | refine awp_drawT (fun _ => false) mixed (by decide +kernel) ?_ | refine awp_drawT isCallO mixed (by decide +kernel) ?_ | refine PCalls.use (hstep) ?_ | refine Or.inl ⟨_, Or.inl (hstep), ?_⟩); simp [-cellOK, a0, a2, a4, m1, c16, c17, vc, vo, c15, rgsAV, nw_cells, nw_fold, set_m, new_m, new_nx', ptAV, hs4', h2]) | (refine guarded_split ?_ ?_ <;> (intro hg; simp only [hg]; simp [-cellOK, a0, a2, a4, m1, c16, c17, vc, vo, c15, rgsAV, nw_cells, nw_fold, set_m, new_m, new_nx', ptAV, hs4', h2])) | (apply awp_cond_t; focus (simp [-cellOK, a0, a2, a4, m1, c16, c17, vc, vo, c15, rgsAV, nw_cells, nw_fold, set_m, new_m, new_nx', ptAV, hs4', h2]; done)) | (apply awp_cond_f; focus (simp [-cellOK, a0, a2, a4, m1, c16, c17, vc, vo, c15, rgsAV, nw_cells, nw_fold, set_m, new_m, new_nx', ptAV, hs4', h2]; done)) | (refine awp_cond ?_; simp [-cellOK, a0, a2, a4, m1, c16, c17, vc, vo, c15, rgsAV, nw_cells, nw_fold, set_m, new_m, new_nx', ptAV, hs4', h2]; refine ⟨?_, ?_⟩ <;> intro hc) | fail)
      generalize hA2 : put 76 _ _ _ = A2
      have d2 : A2 2 = .rp ip 0 17 := by rw [← hA2]; simp [a2]
      have d8 : A2 8 = .raw (.int .i64 (stepF N d r.lo).1) := by rw [← hA2]; simp
      have d9 : A2 9 = .rp ⟨9, τ1.nx 9, 2⟩ 0 0 := by rw [← hA2]; simp
      clear hA2
      generalize hT2 : St.set _ _ _ = τ2
      have f9 : τ1.m ⟨9, τ1.nx 9, 2⟩ = none := fresh_none _ _ _
      have q9 : ip ≠ ⟨9, τ1.nx 9, 2⟩ := fun e => by rw [h2] at e; exact e
      have m9 : τ2.m ⟨9, τ1.nx 9, 2⟩ = some (.buf [ptAV (stepF N d r.lo).2]) := by rw [← hT2]; simp [set_m, new_m, m1, h2, ptAV]
      have m2 : τ2.m ip = some (.buf [.agg (row34 (upc (upc c 17 v') 18 (.raw (.int .i64 4))))]) := by rw [← hT2]; simp [set_m, new_m, h2, m1, row34, upc, c16, c15, rgsAV]
      have hX2 : Ex ip τ1 τ2 := by
        rw [← hT2]
        repeat (first | exact Ex.refl _ _ | refine Ex.set ?_ _ | refine Ex.new ?_ _ _ _ | refine Ex.setF ?_ f9 _)
      clear hT2
      refine awp_freeze ⟨9, τ1.nx 9, 2⟩ ?_
      generalize hA3 : (fun t => giveUp _ _ _) = A3
      have g2 : A3 2 = .rp ip 0 17 := by rw [← hA3]; show giveUp _ _ (A2 2) = _; rw [d2]; exact giveUp_rp_ne q9
      have g8 : A3 8 = .raw (.int .i64 (stepF N d r.lo).1) := by rw [← hA3]; show giveUp _ _ (A2 8) = _; rw [d8]; rfl
      have g9 : A3 9 = .pp (ptAV (stepF N d r.lo).2).cells 0 := by rw [← hA3]; show giveUp _ _ (A2 9) = _; rw [d9, giveUp_rp_made (by simp [St.del]) m9 rfl]
      clear hA3
      have m3 : (τ2.del ⟨9, τ1.nx 9, 2⟩).m ip = _ := (del_other q9).trans m2
      have hX3 := hX2.del f9
      generalize τ2.del ⟨9, τ1.nx 9, 2⟩ = τ3 at m3 hX3 ⊢
      simp only [row34] at m3
      refine awp_drawT (lsO [59]) mixed (by decide +kernel) ?_
      simp [-cellOK, g2, g8, g9, m3, ptAV]
      (try ((first | with_reducible refine dops_go ?_ | with_reducible refine OKv_go ?_ | with_reducible refine OKr_go ?_); simp [-cellOK, g2, g8, g9, m3, ptAV, set_m])); repeat' (first | refine awp_seq ?_ | refine awp_block ?_ | (refine awp_skip ?_; try simp) | (refine awp_exit ?_; try simp) | (refine awp_ret ?_; try simp) | ((first | refine awp_reg ?_ | refine awp_drawT (fun _ => false) mixed (by decide +kernel) ?_ | refine awp_drawT isCallO mixed (by decide +kernel) ?_); simp [-cellOK, g2, g8, g9, m3, ptAV, set_m]) | (refine guarded_split ?_ ?_ <;> (intro hg; simp only [hg]; simp [-cellOK, g2, g8, g9, m3, ptAV, set_m])) | (apply awp_cond_t; focus (simp [-cellOK, g2, g8, g9, m3, ptAV, set_m]; done)) | (apply awp_cond_f; focus (simp [-cellOK, g2, g8, g9, m3, ptAV, set_m]; done)) | (refine awp_cond ?_; simp [-cellOK, g2, g8, g9, m3, ptAV, set_m]; refine ⟨?_, ?_⟩ <;> intro hc) | fail)
      refine retK_of (.inr rfl) (by simp) (hK3 (fun h => by cases hb.1 h) hs4 _ v' (by simp [set_m, m3, row34, upc, c15, rgsAV]) (hB1.ex nv' ?_) (hKp.ex ?_))
      all_goals exact hX3.trans (((Ex.refl _ _).set _).set _)
end Go.Proofs.Ytanimmdlgmkmkaa.Av


/- Probes: one device of the second trace. -/
namespace Go.Proofs.Ytanimmdlgmkmkaa.Av
open Go
set_option linter.unusedSimpArgs false
set_option linter.unusedVariables false
set_option maxRecDepth 100000
set_option maxHeartbeats 4000000
set_option pp.maxSteps 600

theorem visitU_calls (N : Nw) (F : Fl) (hN : NwOK N) {ip : Id} (hsz : ip.sz = 34) {c : Nat → AV} {σ : St} (m : σ.m ip = some (.buf [.agg (row34 c)])) {d : Int} (c16 : c 16 = .raw (.int .i64 d)) {r : Rg} {rs : List Rg} (c15 : c 15 = rgsAV (r :: rs) false)
    {v : AV} {p : List Int} (c17 : c 21 = v) (hB : OwnB σ v (p.map iAV)) (hp : p.length < 2 ^ 43) {K : AV → St → Prop}
    (hK1 : d ∈ p → ∀ τ v', τ.m ip = some (.buf [.agg (row34 (upc (upc c 21 v') 22 (.raw (.int .i64 4))))]) → OwnB τ v' ((p ++ [d]).map iAV) → Kp ip v v' σ τ → K (.raw (.bool false)) τ)
    (hK2 : d ∉ p → (stepF N d r.lo).1 = 4 → ∀ τ v', τ.m ip = some (.buf [.agg (row34 (upc (upc (upc c 21 v') 22 (.raw (.int .i64 4))) 16 (.raw (.int .i64 (nextDev N (stepF N d r.lo).2)))))]) → OwnB τ v' ((p ++ [d]).map iAV) → Kp ip v v' σ τ → K (.raw (.bool true)) τ)
    (hK3 : d ∉ p → (stepF N d r.lo).1 ≠ 4 → ∀ τ v', τ.m ip = some (.buf [.agg (row34 (upc (upc (upc (upc c 21 v') 22 (.raw (.int .i64 (stepF N d r.lo).1))) 23 (.raw (.int .i64 (stepF N d r.lo).2.dev))) 24 (.raw (.int .i64 (stepF N d r.lo).2.port))))]) → OwnB τ v' ((p ++ [d]).map iAV) → Kp ip v v' σ τ → K (.raw (.bool false)) τ) :
    ACalls Try.prog 129 [.rp ip 0 0, nwAV N F, .rp ip 0 21] σ K := by
  obtain ⟨σ0, hO, hE0, kp1, kp2, kp3, kp4⟩ := hB.toL
  have hcon : PCalls Try.prog 42 [.sl 1 (p.map iAV) false, .raw (.int .i64 d)] (.raw (.bool (p.any fun x => decide (d = x)))) := contains_calls p false d (by omega)
  obtain ⟨b0, hb0⟩ : ∃ b, (p.any fun x => decide (d = x)) = b := ⟨_, rfl⟩
  have hb : (d ∈ p) ↔ b0 = true := by
    rw [← hb0, List.any_eq_true]
    refine ⟨fun h => ⟨d, h, by simp⟩, ?_⟩
    rintro ⟨x, hx, e⟩
    simp only [decide_eq_true_eq] at e; exact e ▸ hx
  rw [hb0] at hcon
  have hstep := step_calls N F d r.lo hN.links hN.rules
  have hnext := next_calls N.t F (stepF N d r.lo).2 hN.links
  simp only [row34] at m
  refine abody Try.func129 rfl (N := 76) rfl rfl (by simp) ?_
  have f4 : σ.m ⟨4, σ.nx 4, 3⟩ = none := fresh_none _ _ _
  have n4 : ip ≠ ⟨4, σ.nx 4, 3⟩ := fun e => by rw [e, f4] at m; cases m
  refine awp_seq ?_
  refine awp_reg ?_
  simp [-cellOK, nw_cells]
  generalize hA0 : put 76 _ _ _ = A0
  have d0 : A0 0 = .rp ip 0 0 := by rw [← hA0]; simp
  have d2 : A0 2 = .rp ip 0 21 := by rw [← hA0]; simp
  have d4 : A0 4 = .rp ⟨4, σ.nx 4, 3⟩ 0 0 := by rw [← hA0]; simp
  clear hA0
  refine awp_freeze ⟨4, σ.nx 4, 3⟩ ?_
  generalize hAA : (fun t => giveUp _ _ _) = A
  have a0 : A 0 = .rp ip 0 0 := by rw [← hAA]; show giveUp _ _ (A0 0) = _; rw [d0]; exact giveUp_rp_ne n4
  have a2 : A 2 = .rp ip 0 21 := by rw [← hAA]; show giveUp _ _ (A0 2) = _; rw [d2]; exact giveUp_rp_ne n4
  have a4 : A 4 = .pp (nwAV N F).cells 0 := by rw [← hAA]; show giveUp _ _ (A0 4) = _; rw [d4, giveUp_rp_made (es := [nwAV N F]) (e := nwAV N F) (by simp [St.del]) (by simp [St.new]) rfl]
  generalize hτ : St.del _ _ = τ
  have hm : ∀ i, τ.m i = σ.m i := by
    intro i
    rw [← hτ]
    by_cases e : i = ⟨4, σ.nx 4, 3⟩
    · subst e; rw [f4]; simp [St.del]
    · rw [del_other e, new_other e]
  have hnx : ∀ s, σ.nx s ≤ τ.nx s := fun s => by rw [← hτ]; show σ.nx s ≤ (σ.new 4 3 (.buf [nwAV N F])).nx s; exact St.new_le _ _ _ _ _
  have hEτ : Ext σ τ := ⟨fun i o h => by rw [hm]; exact h, hnx⟩
  clear hτ hAA d0 d2 d4
  have m : τ.m ip = _ := (hm ip).trans m
  have hO := hO.ext hEτ
  have hE := hE0.trans hEτ
  have nv : ¬ isAt v ip := fun ⟨l, e⟩ => hO.ne_sz (i := ip) (by rw [hsz]; decide) _ _ e
  have f0 := kp3
  refine awp_seq ?_
  refine awp_drawT isCallO mixed (by decide +kernel) ?_
  simp [-cellOK, a0, a2, m, c16, c17]
  refine .inl ⟨_, rcalls_own hcon rfl hO.toP, ?_⟩
  (try ((first | with_reducible refine dops_go ?_ | with_reducible refine OKv_go ?_ | with_reducible refine OKr_go ?_); simp [-cellOK, a0, a2, a4, m, c16, c17, -opAppend])); repeat' (first | refine awp_seq ?_ | refine awp_block ?_ | (refine awp_skip ?_; try simp) | (refine awp_exit ?_; try simp) | (refine awp_ret ?_; try simp) | (refine retP_same (by simp) ?_; simp) | (refine retP_no (by simp) (by simp [noIds]) (by repeat (first | assumption | exact Ext.refl _ | refine ext_new' ?_ | refine Ext.setF ?_ (by first | assumption | (simp [new_nx', St.set, fresh_none]; done) | exact ext_fresh (by assumption)))) ?_; simp [-cellOK, a0, a2, a4, m, c16, c17, -opAppend, new_m, set_m, new_nx']) | ((first | refine awp_reg ?_ | refine awp_drawT (fun _ => false) mixed (by decide +kernel) ?_ | refine awp_drawT isCallO mixed (by decide +kernel) ?_); simp [-cellOK, a0, a2, a4, m, c16, c17, -opAppend]) | (refine guarded_split ?_ ?_ <;> (intro hg; simp only [hg]; simp [-cellOK, a0, a2, a4, m, c16, c17, -opAppend])) | (apply awp_cond_t; focus (simp [-cellOK, a0, a2, a4, m, c16, c17, -opAppend]; done)) | (apply awp_cond_f; focus (simp [-cellOK, a0, a2, a4, m, c16, c17, -opAppend]; done)) | (refine awp_cond ?_; simp [-cellOK, a0, a2, a4, m, c16, c17, -opAppend]; refine ⟨?_, ?_⟩ <;> intro hc) | fail)
  refine okr_append slt22 (σ0 := σ0) (hO.ext (Ext.new _ _ _ _)) (hE.trans (Ext.new _ _ _ _)) (ys := [iAV d]) (by simp [new_m, new_nx', iAV]) (.inr rfl) (by simp [iAV]) (by simp; omega) fun v' τ1 hO1 hE1 kp hx1 => ?_
  have m1 := (kp ip _ (new_up _ _ m) (hB.ne nv)).1
  have nv' := notAt (kp ip _ (new_up _ _ m) (hB.ne nv)).2
  obtain ⟨vc, vo⟩ := (OwnB.of hO1).cells
  have hKp : Kp ip v v' σ τ1 := ⟨fun i o n na e => by
    have := kp i o (new_up _ _ (by rw [hm]; exact e)) (hB.ne na)
    exact ⟨this.1, notAt this.2⟩, fun s => Nat.le_trans (Nat.le_trans (hnx s) (St.new_le _ _ _ _ _)) (hx1 s)⟩
  have hB1 := OwnB.of hO1
  have hpd : (p ++ [d]).map iAV = p.map iAV ++ [iAV d] := by simp
  rw [← hpd] at hB1
  cases b0 with
  | true =>
    (try ((first | with_reducible refine dops_go ?_ | with_reducible refine OKv_go ?_ | with_reducible refine OKr_go ?_); simp [-cellOK, a0, a2, a4, m1, c16, c17, vc, vo])); repeat' (first | refine awp_seq ?_ | refine awp_block ?_ | (refine awp_skip ?_; try simp) | (refine awp_exit ?_; try simp) | (refine awp_ret ?_; try simp) | (refine retP_same (by simp) ?_; simp) | (refine retP_no (by simp) (by simp [noIds]) (by repeat (first | assumption | exact Ext.refl _ | refine ext_new' ?_ | refine Ext.setF ?_ (by first | assumption | (simp [new_nx', St.set, fresh_none]; done) | exact ext_fresh (by assumption)))) ?_; simp [-cellOK, a0, a2, a4, m1, c16, c17, vc, vo, new_m, set_m, new_nx']) | ((first | refine awp_reg ?_ | refine awp_drawT (fun _ => false) mixed (by decide +kernel) ?_ | refine awp_drawT isCallO mixed (by decide +kernel) ?_); simp [-cellOK, a0, a2, a4, m1, c16, c17, vc, vo]) | (refine guarded_split ?_ ?_ <;> (intro hg; simp only [hg]; simp [-cellOK, a0, a2, a4, m1, c16, c17, vc, vo])) | (apply awp_cond_t; focus (simp [-cellOK, a0, a2, a4, m1, c16, c17, vc, vo]; done)) | (apply awp_cond_f; focus (simp [-cellOK, a0, a2, a4, m1, c16, c17, vc, vo]; done)) | (refine awp_cond ?_; simp [-cellOK, a0, a2, a4, m1, c16, c17, vc, vo]; refine ⟨?_, ?_⟩ <;> intro hc) | fail)
    refine retK_of (.inr rfl) (by simp) (hK1 (hb.2 rfl) _ v' (by simp [set_m, m1, row34, upc, c16]) (hB1.ex nv' ?_) (hKp.ex ?_))
    all_goals exact ((Ex.refl ip τ1).set _).set _
  | false =>
    have h2 : ∀ a b, (ip = ⟨a, b, 2⟩) = False := fun a b => eq_false fun e => by rw [e] at hsz; cases hsz
    by_cases hs4 : (stepF N d r.lo).1 = 4
    · have hs4' := eq_true hs4
      (try ((first | with_reducible refine dops_go ?_ | with_reducible refine OKv_go ?_ | with_reducible refine OKr_go ?_); simp [-cellOK, a0, a2, a4, m1, c16, c17, vc, vo, c15, rgsAV, nw_cells, nw_fold, set_m, new_m, new_nx', ptAV, hs4', h2])); repeat' (first | refine awp_seq ?_ | refine awp_block ?_ | (refine awp_skip ?_; try simp) | (refine awp_exit ?_; try simp) | (refine awp_ret ?_; try simp) | (refine retP_same (by simp) ?_; simp) | (refine retP_no (by simp) (by simp [noIds]) (by repeat (first | assumption | exact Ext.refl _ | refine ext_new' ?_ | refine Ext.setF ?_ (by first | assumption | (simp [new_nx', St.set, fresh_none]; done) | exact ext_fresh (by assumption)))) ?_; simp [-cellOK, a0, a2, a4, m1, c16, c17, vc, vo, c15, rgsAV, nw_cells, nw_fold, set_m, new_m, new_nx', ptAV, hs4', h2, new_m, set_m, new_nx']) | ((first | refine awp_reg ?_ | refine awp_drawT (fun _ => false) mixed (by decide +kernel) ?_ | refine awp_drawT isCallO mixed (by decide +kernel) ?_ | refine PCalls.use (hstep) ?_ | refine Or.inl ⟨_, Or.inl (hstep), ?_⟩ | refine PCalls.use (hnext) ?_ | refine Or.inl ⟨_, Or.inl (hnext), ?_⟩); simp [-cellOK, a0, a2, a4, m1, c16, c17, vc, vo, c15, rgsAV, nw_cells, nw_fold, set_m, new_m, new_nx', ptAV, hs4', h2]) | (refine guarded_split ?_ ?_ <;> (intro hg; simp only [hg]; simp [-cellOK, a0, a2, a4, m1, c16, c17, vc, vo, c15, rgsAV, nw_cells, nw_fold, set_m, new_m, new_nx', ptAV, hs4', h2])) | (apply awp_cond_t; focus (simp [-cellOK, a0, a2, a4, m1, c16, c17, vc, vo, c15, rgsAV, nw_cells, nw_fold, set_m, new_m, new_nx', ptAV, hs4', h2]; done)) | (apply awp_cond_f; focus (simp [-cellOK, a0, a2, a4, m1, c16, c17, vc, vo, c15, rgsAV, nw_cells, nw_fold, set_m, new_m, new_nx', ptAV, hs4', h2]; done)) | (refine awp_cond ?_; simp [-cellOK, a0, a2, a4, m1, c16, c17, vc, vo, c15, rgsAV, nw_cells, nw_fold, set_m, new_m, new_nx', ptAV, hs4', h2]; refine ⟨?_, ?_⟩ <;> intro hc) | fail)
      refine retK_of (.inr rfl) (by simp) (hK2 (fun h => by cases hb.1 h) hs4 _ v' (by simp [set_m, new_m, new_nx', h2, m1, row34, upc, c15, rgsAV, nextDev]) (hB1.ex nv' ?_) (hKp.ex ?_))
      all_goals repeat (first | exact Ex.refl _ _ | refine Ex.set ?_ _ | refine Ex.new ?_ _ _ _ | refine Ex.setF ?_ (by first | exact fresh_none _ _ _ | (simp [set_m, new_m, new_nx', fresh_none]; done)) _)
    · have hs4' := eq_false hs4
      (try ((first | with_reducible refine dops_go ?_ | with_reducible refine OKv_go ?_ | with_reducible refine OKr_go ?_); simp [-cellOK, a0, a2, a4, m1, c16, c17, vc, vo, c15, rgsAV, nw_cells, nw_fold, set_m, new_m, new_nx', ptAV, hs4', h2])); repeat' (first | refine awp_seq ?_ | refine awp_block ?_ | (refine awp_skip ?_; try simp) | (refine awp_exit ?_; try simp) | (refine awp_ret ?_; try simp) | ((first | refine awp_reg ?_ | refine awp_drawT (fun _ => false) mixed (by decide +kernel) ?_ | refine awp_drawT isCallO mixed (by decide +kernel) ?_ | refine PCalls.use (hstep) ?_ | refine Or.inl ⟨_, Or.inl (hstep), ?_⟩); simp [-cellOK, a0, a2, a4, m1, c16, c17, vc, vo, c15, rgsAV, nw_cells, nw_fold, set_m, new_m, new_nx', ptAV, hs4', h2]) | (refine guarded_split ?_ ?_ <;> (intro hg; simp only [hg]; simp [-cellOK, a0, a2, a4, m1, c16, c17, vc, vo, c15, rgsAV, nw_cells, nw_fold, set_m, new_m, new_nx', ptAV, hs4', h2])) | (apply awp_cond_t; focus (simp [-cellOK, a0, a2, a4, m1, c16, c17, vc, vo, c15, rgsAV, nw_cells, nw_fold, set_m, new_m, new_nx', ptAV, hs4', h2]; done)) | (apply awp_cond_f; focus (simp [-cellOK, a0, a2, a4, m1, c16, c17, vc, vo, c15, rgsAV, nw_cells, nw_fold, set_m, new_m, new_nx', ptAV, hs4', h2]; done)) | (refine awp_cond ?_; simp [-cellOK, a0, a2, a4, m1, c16, c17, vc, vo, c15, rgsAV, nw_cells, nw_fold, set_m, new_m, new_nx', ptAV, hs4', h2]; refine ⟨?_, ?_⟩ <;> intro hc) | fail)
      generalize hA2 : put 76 _ _ _ = A2
      have d2 : A2 2 = .rp ip 0 21 := by rw [← hA2]; simp [a2]
      have d8 : A2 8 = .raw (.int .i64 (stepF N d r.lo).1) := by rw [← hA2]; simp
      have d9 : A2 9 = .rp ⟨9, τ1.nx 9, 2⟩ 0 0 := by rw [← hA2]; simp
      clear hA2
      generalize hT2 : St.set _ _ _ = τ2
      have f9 : τ1.m ⟨9, τ1.nx 9, 2⟩ = none := fresh_none _ _ _
      have q9 : ip ≠ ⟨9, τ1.nx 9, 2⟩ := fun e => by rw [h2] at e; exact e
      have m9 : τ2.m ⟨9, τ1.nx 9, 2⟩ = some (.buf [ptAV (stepF N d r.lo).2]) := by rw [← hT2]; simp [set_m, new_m, m1, h2, ptAV]
      have m2 : τ2.m ip = some (.buf [.agg (row34 (upc (upc c 21 v') 22 (.raw (.int .i64 4))))]) := by rw [← hT2]; simp [set_m, new_m, h2, m1, row34, upc, c16, c15, rgsAV]
      have hX2 : Ex ip τ1 τ2 := by
        rw [← hT2]
        repeat (first | exact Ex.refl _ _ | refine Ex.set ?_ _ | refine Ex.new ?_ _ _ _ | refine Ex.setF ?_ f9 _)
      clear hT2
      refine awp_freeze ⟨9, τ1.nx 9, 2⟩ ?_
      generalize hA3 : (fun t => giveUp _ _ _) = A3
      have g2 : A3 2 = .rp ip 0 21 := by rw [← hA3]; show giveUp _ _ (A2 2) = _; rw [d2]; exact giveUp_rp_ne q9
      have g8 : A3 8 = .raw (.int .i64 (stepF N d r.lo).1) := by rw [← hA3]; show giveUp _ _ (A2 8) = _; rw [d8]; rfl
      have g9 : A3 9 = .pp (ptAV (stepF N d r.lo).2).cells 0 := by rw [← hA3]; show giveUp _ _ (A2 9) = _; rw [d9, giveUp_rp_made (by simp [St.del]) m9 rfl]
      clear hA3
      have m3 : (τ2.del ⟨9, τ1.nx 9, 2⟩).m ip = _ := (del_other q9).trans m2
      have hX3 := hX2.del f9
      generalize τ2.del ⟨9, τ1.nx 9, 2⟩ = τ3 at m3 hX3 ⊢
      simp only [row34] at m3
      refine awp_drawT (lsO [59]) mixed (by decide +kernel) ?_
      simp [-cellOK, g2, g8, g9, m3, ptAV]
      (try ((first | with_reducible refine dops_go ?_ | with_reducible refine OKv_go ?_ | with_reducible refine OKr_go ?_); simp [-cellOK, g2, g8, g9, m3, ptAV, set_m])); repeat' (first | refine awp_seq ?_ | refine awp_block ?_ | (refine awp_skip ?_; try simp) | (refine awp_exit ?_; try simp) | (refine awp_ret ?_; try simp) | ((first | refine awp_reg ?_ | refine awp_drawT (fun _ => false) mixed (by decide +kernel) ?_ | refine awp_drawT isCallO mixed (by decide +kernel) ?_); simp [-cellOK, g2, g8, g9, m3, ptAV, set_m]) | (refine guarded_split ?_ ?_ <;> (intro hg; simp only [hg]; simp [-cellOK, g2, g8, g9, m3, ptAV, set_m])) | (apply awp_cond_t; focus (simp [-cellOK, g2, g8, g9, m3, ptAV, set_m]; done)) | (apply awp_cond_f; focus (simp [-cellOK, g2, g8, g9, m3, ptAV, set_m]; done)) | (refine awp_cond ?_; simp [-cellOK, g2, g8, g9, m3, ptAV, set_m]; refine ⟨?_, ?_⟩ <;> intro hc) | fail)
      refine retK_of (.inr rfl) (by simp) (hK3 (fun h => by cases hb.1 h) hs4 _ v' (by simp [set_m, m3, row34, upc, c15, rgsAV]) (hB1.ex nv' ?_) (hKp.ex ?_))
      all_goals exact hX3.trans (((Ex.refl _ _).set _).set _)
end Go.Proofs.Ytanimmdlgmkmkaa.Av


/- Probes: the object, and its beginning. -/
namespace Go.Proofs.Ytanimmdlgmkmkaa.Av
open Go
set_option linter.unusedSimpArgs false
set_option linter.unusedVariables false
set_option maxRecDepth 100000
set_option maxHeartbeats 4000000
set_option pp.maxSteps 600

/-- What a probe goes through: two networks, a query, the sources and the parts that are left. -/
structure PB where
  N : Nw
  M : Nw
  F : Fl
  G : Fl
  q : Qy
  S : List Int
  A : List Rg
  P : List Rg
/-- The verdict's cells. -/
structure VC where
  h : Bool
  s : Int
  a : Int
  p : AV
  o : Int
  d : Int
  e : Int
def vc0 : VC := ⟨false, 0, 0, .sl 0 [] true, 0, 0, 0⟩
def pbRow (X : PB) (d : Int) (v : AV) (t : Int × Pt) (w : AV) (u : Int × Pt) (nx : AV) (dn : Bool) (r : VC) : List AV :=
  [intsAV X.N.t.ports X.F.p, linksAV X.N.t.links X.F.l, rulesAV X.N.rules X.F.r, intsAV X.M.t.ports X.G.p, linksAV X.M.t.links X.G.l, rulesAV X.M.rules X.G.r,
    .raw (.int .i64 X.q.kind), .raw (.int .i64 X.q.a), .raw (.int .i64 X.q.b), .raw (.int .i64 X.q.w), .raw (.int .u32 X.q.r.lo), .raw (.int .u32 X.q.r.hi), .raw (.string X.q.other),
    intsAV X.S false, rgsAV X.A false, rgsAV X.P false, .raw (.int .i64 d), v, .raw (.int .i64 t.1), .raw (.int .i64 t.2.dev), .raw (.int .i64 t.2.port),
    w, .raw (.int .i64 u.1), .raw (.int .i64 u.2.dev), .raw (.int .i64 u.2.port), nx, .raw (.bool dn), .raw (.bool r.h), .raw (.int .i64 r.s), .raw (.int .u32 r.a), r.p, .raw (.int .i64 r.o), .raw (.int .i64 r.d), .raw (.int .i64 r.e)]
def pbOb (X : PB) (d : Int) (v : AV) (t : Int × Pt) (w : AV) (u : Int × Pt) (nx : AV) (dn : Bool) (r : VC) : Ob := .buf [.agg (pbRow X d v t w u nx dn r)]
def firstAV (ip : Id) : AV := .fn (.func 99) [.rp ip 0 0] []
def secondAV (ip : Id) : AV := .fn (.func 130) [.rp ip 0 0] []
def nilAV : AV := .sl 0 [] true
def z0 : Int × Pt := (0, ⟨0, 0⟩)
theorem begin_calls {ip : Id} (hsz : ip.sz = 34) {X : PB} {d : Int} {v : AV} {t : Int × Pt} {w : AV} {u : Int × Pt} {nx : AV} {dn : Bool} {r : VC} {σ : St} (m : σ.m ip = some (pbOb X d v t w u nx dn r))
    {s : Int} {ss : List Int} (hS : X.S = s :: ss) {K : AV → St → Prop}
    (hK : ∀ τ, τ.m ip = some (pbOb X s nilAV z0 nilAV z0 (firstAV ip) dn r) → Ex ip σ τ → K (.tup []) τ) : ACalls Try.prog 58 [.rp ip 0 0] σ K := by
  simp only [pbOb, pbRow, hS] at m hK
  refine abody Try.func58 rfl (N := 24) rfl rfl (by simp) ?_
  (try ((first | with_reducible refine dops_go ?_ | with_reducible refine OKv_go ?_ | with_reducible refine OKr_go ?_); simp [-cellOK, m, intsAV, iAV, set_m])); repeat' (first | refine awp_seq ?_ | refine awp_block ?_ | (refine awp_skip ?_; try simp) | (refine awp_exit ?_; try simp) | (refine awp_ret ?_; try simp) | ((first | refine awp_reg ?_ | refine awp_drawT (fun _ => false) mixed (by decide +kernel) ?_ | refine awp_drawT isCallO mixed (by decide +kernel) ?_); simp [-cellOK, m, intsAV, iAV, set_m]) | (refine guarded_split ?_ ?_ <;> (intro hg; simp only [hg]; simp [-cellOK, m, intsAV, iAV, set_m])) | (apply awp_cond_t; focus (simp [-cellOK, m, intsAV, iAV, set_m]; done)) | (apply awp_cond_f; focus (simp [-cellOK, m, intsAV, iAV, set_m]; done)) | (refine awp_cond ?_; simp [-cellOK, m, intsAV, iAV, set_m]; refine ⟨?_, ?_⟩ <;> intro hc) | fail)
  refine retK_of (.inl rfl) (x := .tup []) (by simp) (hK _ (by simp [set_m, m, intsAV, iAV, nilAV, z0, firstAV]) ?_)
  repeat (first | exact Ex.refl _ _ | refine Ex.set ?_ _)
end Go.Proofs.Ytanimmdlgmkmkaa.Av


/- Probes: the end of a trace, or of both. -/
namespace Go.Proofs.Ytanimmdlgmkmkaa.Av
open Go
set_option linter.unusedSimpArgs false
set_option linter.unusedVariables false
set_option maxRecDepth 100000
set_option maxHeartbeats 4000000
set_option pp.maxSteps 600

theorem OwnB.lent {σ : St} {v : AV} {es : List AV} (h : OwnB σ v es) : ∃ b, lent0 σ.m v b ∧ ∀ S x, VRel S b x → VRel S (.sl 1 es false) x := by
  rcases h with ⟨rfl, rfl⟩ | ⟨j, rfl, hj, hm⟩
  · exact ⟨_, .inl rfl, fun S x h => weaker_sl S x h⟩
  · exact ⟨.sl 1 es false, .inr ⟨es, hm, by simp, by simp [hj]⟩, fun S x h => h⟩
theorem rcalls_brk {P : Program} {f : FuncId} {σ : St} {n m q v w r x1 x2 x3 y1 y2 y3 : AV} {es fs : List AV} (h : PCalls P f [n, m, q, .agg [.sl 1 es false, x1, x2, x3], .agg [.sl 1 fs false, y1, y2, y3]] r) (hr : r.plain = true) (hv : OwnB σ v es) (hw : OwnB σ w fs) :
    RCalls P σ.m f [n, m, q, .agg [v, x1, x2, x3], .agg [w, y1, y2, y3]] r := by
  obtain ⟨b, hb, kb⟩ := hv.lent
  obtain ⟨c, hc, kc⟩ := hw.lent
  refine .inr ⟨[n, m, q, .agg [b, x1, x2, x3], .agg [c, y1, y2, y3]], ?_, ⟨h.1, fun σ => ACalls.args (bs := [n, m, q, .agg [.sl 1 es false, x1, x2, x3], .agg [.sl 1 fs false, y1, y2, y3]]) (fun S vs hl => ?_) (h.2 σ)⟩, hr⟩
  · simp only [lentL, lent1, lentF]
    exact ⟨_, _, rfl, .inl rfl, _, _, rfl, .inl rfl, _, _, rfl, .inl rfl, _, _, rfl, .inr ⟨_, ⟨_, _, rfl, hb, _, _, rfl, .inl rfl, _, _, rfl, .inl rfl, _, _, rfl, .inl rfl, rfl⟩, rfl⟩,
      _, _, rfl, .inr ⟨_, ⟨_, _, rfl, hc, _, _, rfl, .inl rfl, _, _, rfl, .inl rfl, _, _, rfl, .inl rfl, rfl⟩, rfl⟩, rfl⟩
  · simp only [LRel, VRel] at hl ⊢
    obtain ⟨v1, l1, e1, h1, v2, l2, e2, h2, v3, l3, e3, h3, v4, l4, e4, ⟨g4, e5, a1, b1, e6, h6, h7⟩, v8, l8, e8, ⟨g8, e9, a9, b9, e10, h10, h11⟩, e12⟩ := hl
    exact ⟨v1, l1, e1, h1, v2, l2, e2, h2, v3, l3, e3, h3, v4, l4, e4, ⟨g4, e5, a1, b1, e6, kb _ _ h6, h7⟩, v8, l8, e8, ⟨g8, e9, a9, b9, e10, kc _ _ h10, h11⟩, e12⟩

theorem ended_calls {ip : Id} (hsz : ip.sz = 34) {X : PB} {d : Int} {v : AV} {t : Tk} {w : AV} {u : Tk} {nx : AV} {σ : St} (m : σ.m ip = some (pbOb X d v (t.out, t.last) w (u.out, u.last) nx false vc0))
    (hv : OwnB σ v (t.path.map iAV)) (hw : OwnB σ w (u.path.map iAV)) (ht : t.path.length < 2 ^ 60) (hu : u.path.length < 2 ^ 60) (hnx : nx.cells = [nx] ∧ cellOK nx = true)
    {s : Int} {ss : List Int} (hS : X.S = s :: ss) {r : Rg} {rs : List Rg} (hP : X.P = r :: rs) (hSl : X.S.length < 2 ^ 60) (hPl : X.P.length < 2 ^ 60) {K : AV → St → Prop}
    (hK1 : breaksQ X.q t u = true → ∀ τ, τ.m ip = some (pbOb X d v (t.out, t.last) w (u.out, u.last) nx true ⟨false, s, r.lo, v, t.out, t.last.dev, t.last.port⟩) → Ex ip σ τ → K (.tup []) τ)
    (hK2 : breaksQ X.q t u = false → rs ≠ [] → ∀ τ, τ.m ip = some (pbOb { X with P := rs } s nilAV z0 nilAV z0 (firstAV ip) false vc0) → Ex ip σ τ → K (.tup []) τ)
    (hK3 : breaksQ X.q t u = false → rs = [] → ss = [] → ∀ τ, τ.m ip = some (pbOb { X with P := X.A, S := [] } d v (t.out, t.last) w (u.out, u.last) nx true ⟨true, 0, 0, nilAV, 0, 0, 0⟩) → Ex ip σ τ → K (.tup []) τ)
    (hK4 : breaksQ X.q t u = false → rs = [] → ∀ s' ss', ss = s' :: ss' → ∀ τ, τ.m ip = some (pbOb { X with P := X.A, S := ss } s' nilAV z0 nilAV z0 (firstAV ip) false vc0) → Ex ip σ τ → K (.tup []) τ) :
    ACalls Try.prog 131 [.rp ip 0 0] σ K := by
  have hbr := breaks_calls X.N X.M X.F X.G X.q t u false false ht hu
  obtain ⟨vc, vo⟩ := hv.cells
  obtain ⟨nc, no⟩ := hnx
  have n1 : ∀ n : Nat, ((n : Int) + 1 = 0) = False := fun n => eq_false (by omega)
  have ra : (rgsAV X.A false).cells = [rgsAV X.A false] := rfl
  have rb : cellOK (rgsAV X.A false) = true := rfl
  obtain ⟨b, hb⟩ : ∃ b, breaksQ X.q t u = b := ⟨_, rfl⟩
  rw [hb] at hbr hK1 hK2 hK3 hK4
  have hrc := rcalls_brk hbr rfl hv hw
  simp only [hS, hP, List.length_cons] at hSl hPl
  have m0 := m
  have hS' : intsAV X.S false = .sl 1 (iAV s :: ss.map iAV) false := by rw [hS]; rfl
  have hP' : rgsAV X.P false = .sl 2 (rgAV r :: rs.map rgAV) false := by rw [hP]; rfl
  simp only [pbOb, pbRow] at m
  refine abody Try.func131 rfl (N := 91) rfl rfl (by simp) ?_
  repeat (refine awp_seq ?_)
  refine awp_drawT isCallO mixed (by decide +kernel) ?_
  simp [-cellOK, m, nw_fold, qy_fold]
  refine .inl ⟨_, hrc, ?_⟩
  cases b with
  | true =>
    (try ((first | with_reducible refine dops_go ?_ | with_reducible refine OKv_go ?_ | with_reducible refine OKr_go ?_); simp [-cellOK, m, hS', hP', rgAV, iAV, vc, vo, nc, no, set_m, n1, ra, rb])); repeat' (first | refine awp_seq ?_ | refine awp_block ?_ | (refine awp_skip ?_; try simp) | (refine awp_exit ?_; try simp) | (refine awp_ret ?_; try simp) | ((first | refine awp_reg ?_ | refine awp_drawT (fun _ => false) mixed (by decide +kernel) ?_ | refine awp_drawT isCallO mixed (by decide +kernel) ?_); simp [-cellOK, m, hS', hP', rgAV, iAV, vc, vo, nc, no, set_m, n1, ra, rb]) | (refine guarded_split ?_ ?_ <;> (intro hg; simp only [hg]; simp [-cellOK, m, hS', hP', rgAV, iAV, vc, vo, nc, no, set_m, n1, ra, rb])) | (apply awp_cond_t; focus (simp [-cellOK, m, hS', hP', rgAV, iAV, vc, vo, nc, no, set_m, n1, ra, rb]; done)) | (apply awp_cond_f; focus (simp [-cellOK, m, hS', hP', rgAV, iAV, vc, vo, nc, no, set_m, n1, ra, rb]; done)) | (refine awp_cond ?_; simp [-cellOK, m, hS', hP', rgAV, iAV, vc, vo, nc, no, set_m, n1, ra, rb]; refine ⟨?_, ?_⟩ <;> intro hc) | fail)
    refine retK_of (.inr rfl) (x := .tup []) (by simp) (hK1 rfl _ ?_ ?_)
    · simp [set_m, m, pbOb, pbRow, hS', hP', rgAV, iAV]
    · repeat (first | exact Ex.refl _ _ | refine Ex.set ?_ _)
  | false =>
    cases rs with
    | cons r' rs =>
      (try ((first | with_reducible refine dops_go ?_ | with_reducible refine OKv_go ?_ | with_reducible refine OKr_go ?_); simp [-cellOK, m, hS', hP', rgAV, iAV, vc, vo, nc, no, set_m, n1, ra, rb])); repeat' (first | refine awp_seq ?_ | refine awp_block ?_ | (refine awp_skip ?_; try simp) | (refine awp_exit ?_; try simp) | (refine awp_ret ?_; try simp) | ((first | refine awp_reg ?_ | refine awp_drawT (fun _ => false) mixed (by decide +kernel) ?_ | refine awp_drawT isCallO mixed (by decide +kernel) ?_); simp [-cellOK, m, hS', hP', rgAV, iAV, vc, vo, nc, no, set_m, n1, ra, rb]) | (refine guarded_split ?_ ?_ <;> (intro hg; simp only [hg]; simp [-cellOK, m, hS', hP', rgAV, iAV, vc, vo, nc, no, set_m, n1, ra, rb])) | (apply awp_cond_t; focus (simp [-cellOK, m, hS', hP', rgAV, iAV, vc, vo, nc, no, set_m, n1, ra, rb]; done)) | (apply awp_cond_f; focus (simp [-cellOK, m, hS', hP', rgAV, iAV, vc, vo, nc, no, set_m, n1, ra, rb]; done)) | (refine awp_cond ?_; simp [-cellOK, m, hS', hP', rgAV, iAV, vc, vo, nc, no, set_m, n1, ra, rb]; refine ⟨?_, ?_⟩ <;> intro hc) | fail)
      generalize hσ1 : St.set _ _ _ = σ1
      have m1 : σ1.m ip = some (pbOb { X with P := r' :: rs } d v (t.out, t.last) w (u.out, u.last) nx false vc0) := by rw [← hσ1]; simp [set_m, m, pbOb, pbRow, hS', rgsAV, rgAV, iAV]
      have hE1 : Ex ip σ σ1 := by rw [← hσ1]; repeat (first | exact Ex.refl _ _ | refine Ex.set ?_ _)
      refine begin_calls hsz m1 hS fun τ mτ hE => ?_
      (try ((first | with_reducible refine dops_go ?_ | with_reducible refine OKv_go ?_ | with_reducible refine OKr_go ?_); simp [-cellOK])); repeat' (first | refine awp_seq ?_ | refine awp_block ?_ | (refine awp_skip ?_; try simp) | (refine awp_exit ?_; try simp) | (refine awp_ret ?_; try simp) | ((first | refine awp_reg ?_ | refine awp_drawT (fun _ => false) mixed (by decide +kernel) ?_ | refine awp_drawT isCallO mixed (by decide +kernel) ?_); simp [-cellOK]) | (refine guarded_split ?_ ?_ <;> (intro hg; simp only [hg]; simp [-cellOK])) | (apply awp_cond_t; focus (simp [-cellOK]; done)) | (apply awp_cond_f; focus (simp [-cellOK]; done)) | (refine awp_cond ?_; simp [-cellOK]; refine ⟨?_, ?_⟩ <;> intro hc) | fail)
      exact retK_of (.inl rfl) (x := .tup []) (by simp) (hK2 rfl (by simp) τ mτ (hE1.trans hE))
    | nil =>
      cases ss with
      | nil =>
        (try ((first | with_reducible refine dops_go ?_ | with_reducible refine OKv_go ?_ | with_reducible refine OKr_go ?_); simp [-cellOK, m, hS', hP', rgAV, iAV, vc, vo, nc, no, set_m, n1, ra, rb])); repeat' (first | refine awp_seq ?_ | refine awp_block ?_ | (refine awp_skip ?_; try simp) | (refine awp_exit ?_; try simp) | (refine awp_ret ?_; try simp) | ((first | refine awp_reg ?_ | refine awp_drawT (fun _ => false) mixed (by decide +kernel) ?_ | refine awp_drawT isCallO mixed (by decide +kernel) ?_); simp [-cellOK, m, hS', hP', rgAV, iAV, vc, vo, nc, no, set_m, n1, ra, rb]) | (refine guarded_split ?_ ?_ <;> (intro hg; simp only [hg]; simp [-cellOK, m, hS', hP', rgAV, iAV, vc, vo, nc, no, set_m, n1, ra, rb])) | (apply awp_cond_t; focus (simp [-cellOK, m, hS', hP', rgAV, iAV, vc, vo, nc, no, set_m, n1, ra, rb]; done)) | (apply awp_cond_f; focus (simp [-cellOK, m, hS', hP', rgAV, iAV, vc, vo, nc, no, set_m, n1, ra, rb]; done)) | (refine awp_cond ?_; simp [-cellOK, m, hS', hP', rgAV, iAV, vc, vo, nc, no, set_m, n1, ra, rb]; refine ⟨?_, ?_⟩ <;> intro hc) | fail)
        refine retK_of (.inr rfl) (x := .tup []) (by simp) (hK3 rfl rfl rfl _ ?_ ?_)
        · simp [set_m, m, pbOb, pbRow, hS', hP', rgAV, iAV, intsAV, nilAV]
        · repeat (first | exact Ex.refl _ _ | refine Ex.set ?_ _)
      | cons s' ss =>
        (try ((first | with_reducible refine dops_go ?_ | with_reducible refine OKv_go ?_ | with_reducible refine OKr_go ?_); simp [-cellOK, m, hS', hP', rgAV, iAV, vc, vo, nc, no, set_m, n1, ra, rb])); repeat' (first | refine awp_seq ?_ | refine awp_block ?_ | (refine awp_skip ?_; try simp) | (refine awp_exit ?_; try simp) | (refine awp_ret ?_; try simp) | ((first | refine awp_reg ?_ | refine awp_drawT (fun _ => false) mixed (by decide +kernel) ?_ | refine awp_drawT isCallO mixed (by decide +kernel) ?_); simp [-cellOK, m, hS', hP', rgAV, iAV, vc, vo, nc, no, set_m, n1, ra, rb]) | (refine guarded_split ?_ ?_ <;> (intro hg; simp only [hg]; simp [-cellOK, m, hS', hP', rgAV, iAV, vc, vo, nc, no, set_m, n1, ra, rb])) | (apply awp_cond_t; focus (simp [-cellOK, m, hS', hP', rgAV, iAV, vc, vo, nc, no, set_m, n1, ra, rb]; done)) | (apply awp_cond_f; focus (simp [-cellOK, m, hS', hP', rgAV, iAV, vc, vo, nc, no, set_m, n1, ra, rb]; done)) | (refine awp_cond ?_; simp [-cellOK, m, hS', hP', rgAV, iAV, vc, vo, nc, no, set_m, n1, ra, rb]; refine ⟨?_, ?_⟩ <;> intro hc) | fail)
        generalize hσ1 : St.set _ _ _ = σ1
        have m1 : σ1.m ip = some (pbOb { X with P := X.A, S := s' :: ss } d v (t.out, t.last) w (u.out, u.last) nx false vc0) := by rw [← hσ1]; simp [set_m, m, pbOb, pbRow, intsAV, rgAV, iAV]
        have hE1 : Ex ip σ σ1 := by rw [← hσ1]; repeat (first | exact Ex.refl _ _ | refine Ex.set ?_ _)
        refine begin_calls hsz m1 rfl fun τ mτ hE => ?_
        (try ((first | with_reducible refine dops_go ?_ | with_reducible refine OKv_go ?_ | with_reducible refine OKr_go ?_); simp [-cellOK])); repeat' (first | refine awp_seq ?_ | refine awp_block ?_ | (refine awp_skip ?_; try simp) | (refine awp_exit ?_; try simp) | (refine awp_ret ?_; try simp) | ((first | refine awp_reg ?_ | refine awp_drawT (fun _ => false) mixed (by decide +kernel) ?_ | refine awp_drawT isCallO mixed (by decide +kernel) ?_); simp [-cellOK]) | (refine guarded_split ?_ ?_ <;> (intro hg; simp only [hg]; simp [-cellOK])) | (apply awp_cond_t; focus (simp [-cellOK]; done)) | (apply awp_cond_f; focus (simp [-cellOK]; done)) | (refine awp_cond ?_; simp [-cellOK]; refine ⟨?_, ?_⟩ <;> intro hc) | fail)
        exact retK_of (.inl rfl) (x := .tup []) (by simp) (hK4 rfl rfl s' ss rfl τ mτ (hE1.trans hE))
end Go.Proofs.Ytanimmdlgmkmkaa.Av


/- Probes: one unit. -/
namespace Go.Proofs.Ytanimmdlgmkmkaa.Av
open Go
set_option linter.unusedSimpArgs false
set_option linter.unusedVariables false
set_option maxRecDepth 100000
set_option maxHeartbeats 4000000
set_option pp.maxSteps 600

theorem visit1_calls {ip : Id} (hsz : ip.sz = 34) {X : PB} (hN : NwOK X.N) {σ : St} {d : Int} {v : AV} {x : Int} {p : List Int} {s : Int} {r : Rg} {rs : List Rg} (hP : X.P = r :: rs) (hw : Way X.N r.lo s d p)
    (m : σ.m ip = some (pbOb X d v (x, ⟨0, 0⟩) nilAV z0 (firstAV ip) false vc0)) (hB : OwnB σ v (p.map iAV)) {K : AV → St → Prop}
    (hKf : ∀ τ v', (d ∈ p ∨ (stepF X.N d r.lo).1 ≠ 4) → τ.m ip = some (pbOb X d v' ((traceF X.N s r.lo).out, (traceF X.N s r.lo).last) nilAV z0 (firstAV ip) false vc0) → OwnB τ v' ((traceF X.N s r.lo).path.map iAV) → Kp ip v v' σ τ → K (.raw (.bool false)) τ)
    (hKt : ∀ τ v', ¬ (d ∈ p ∨ (stepF X.N d r.lo).1 ≠ 4) → τ.m ip = some (pbOb X (nextDev X.N (stepF X.N d r.lo).2) v' (4, ⟨0, 0⟩) nilAV z0 (firstAV ip) false vc0) → OwnB τ v' ((p ++ [d]).map iAV) → Kp ip v v' σ τ → K (.raw (.bool true)) τ) :
    ACalls Try.prog 129 [.rp ip 0 0, nwAV X.N X.F, .rp ip 0 17] σ K := by
  have hl := hw.len
  have hk := hN.links
  refine visitT_calls X.N X.F hN hsz (c := fun j => (pbRow X d v (x, ⟨0, 0⟩) nilAV z0 (firstAV ip) false vc0)[j]?.getD .any) m (d := d) rfl (r := r) (rs := rs) (by rw [← hP]; rfl) (v := v) (p := p) rfl hB (by omega) ?_ ?_ ?_
  · intro hd τ v' mτ hB' hKp
    have e := hw.again hd
    exact hKf τ v' (.inl hd) (by rw [e]; exact mτ) (by rw [e]; exact hB') hKp
  · intro hd h4 τ v' mτ hB' hKp
    exact hKt τ v' (fun h => h.elim hd fun h => h h4) mτ hB' hKp
  · intro hd h4 τ v' mτ hB' hKp
    have e := hw.fin hd h4
    exact hKf τ v' (.inr h4) (by rw [e]; exact mτ) (by rw [e]; exact hB') hKp

theorem visit2_calls {ip : Id} (hsz : ip.sz = 34) {X : PB} (hN : NwOK X.M) {σ : St} {d : Int} {v w : AV} {t : Int × Pt} {x : Int} {p : List Int} {s : Int} {r : Rg} {rs : List Rg} (hP : X.P = r :: rs) (hw : Way X.M r.lo s d p)
    (m : σ.m ip = some (pbOb X d v t w (x, ⟨0, 0⟩) (secondAV ip) false vc0)) (hB : OwnB σ w (p.map iAV)) {K : AV → St → Prop}
    (hKf : ∀ τ w', (d ∈ p ∨ (stepF X.M d r.lo).1 ≠ 4) → τ.m ip = some (pbOb X d v t w' ((traceF X.M s r.lo).out, (traceF X.M s r.lo).last) (secondAV ip) false vc0) → OwnB τ w' ((traceF X.M s r.lo).path.map iAV) → Kp ip w w' σ τ → K (.raw (.bool false)) τ)
    (hKt : ∀ τ w', ¬ (d ∈ p ∨ (stepF X.M d r.lo).1 ≠ 4) → τ.m ip = some (pbOb X (nextDev X.M (stepF X.M d r.lo).2) v t w' (4, ⟨0, 0⟩) (secondAV ip) false vc0) → OwnB τ w' ((p ++ [d]).map iAV) → Kp ip w w' σ τ → K (.raw (.bool true)) τ) :
    ACalls Try.prog 129 [.rp ip 0 0, nwAV X.M X.G, .rp ip 0 21] σ K := by
  have hl := hw.len
  have hk := hN.links
  refine visitU_calls X.M X.G hN hsz (c := fun j => (pbRow X d v t w (x, ⟨0, 0⟩) (secondAV ip) false vc0)[j]?.getD .any) m (d := d) rfl (r := r) (rs := rs) (by rw [← hP]; rfl) (v := w) (p := p) rfl hB (by omega) ?_ ?_ ?_
  · intro hd τ v' mτ hB' hKp
    have e := hw.again hd
    exact hKf τ v' (.inl hd) (by rw [e]; exact mτ) (by rw [e]; exact hB') hKp
  · intro hd h4 τ v' mτ hB' hKp
    exact hKt τ v' (fun h => h.elim hd fun h => h h4) mτ hB' hKp
  · intro hd h4 τ v' mτ hB' hKp
    have e := hw.fin hd h4
    exact hKf τ v' (.inr h4) (by rw [e]; exact mτ) (by rw [e]; exact hB') hKp

/-- Where a probe is: in the first trace, in the second, or done. -/
inductive Ph
  | one (p : List Int) (d : Int)
  | two (p : List Int) (d : Int)
  | fin (V : Vd)
deriving DecidableEq
def PbR (ip : Id) (X : PB) : Ph → AV → AV → St → Prop
  | .one p d, v, w, σ => w = nilAV ∧ OwnB σ v (p.map iAV) ∧ ∃ s ss r rs x, X.S = s :: ss ∧ X.P = r :: rs ∧ Way X.N r.lo s d p ∧ σ.m ip = some (pbOb X d v (x, ⟨0, 0⟩) nilAV z0 (firstAV ip) false vc0)
  | .two p d, v, w, σ => OwnB σ w (p.map iAV) ∧ (∀ j, isAt v j → ¬ isAt w j) ∧ X.q.kind = 5 ∧ ∃ s ss r rs x, X.S = s :: ss ∧ X.P = r :: rs ∧ Way X.M r.lo s d p ∧ OwnB σ v ((traceF X.N s r.lo).path.map iAV) ∧
      σ.m ip = some (pbOb X d v ((traceF X.N s r.lo).out, (traceF X.N s r.lo).last) w (x, ⟨0, 0⟩) (secondAV ip) false vc0)
  | .fin V, v, w, σ => w = nilAV ∧ OwnB σ v (V.tr.path.map iAV) ∧ V.tr.path.length < 2 ^ 44 ∧ ∃ d v' t w' u nx, σ.m ip = some (pbOb X d v' t w' u nx true ⟨V.holds, V.src, V.addr, v, V.tr.out, V.tr.last.dev, V.tr.last.port⟩)
def overP (X : PB) (t u : Tk) : PB × Ph := match X.S, X.P with
  | s :: ss, r :: rs => if breaksQ X.q t u = true then (X, .fin ⟨false, s, r.lo, t⟩) else match rs with
    | _ :: _ => ({ X with P := rs }, .one [] s)
    | [] => match ss with
      | [] => ({ X with P := X.A, S := [] }, .fin ⟨true, 0, 0, noTk⟩)
      | s' :: _ => ({ X with P := X.A, S := ss }, .one [] s')
  | _, _ => (X, .one [] 0)
def stepP (X : PB) : Ph → PB × Ph
  | .one p d => match X.S, X.P with
    | s :: ss, r :: rs => if d ∈ p ∨ (stepF X.N d r.lo).1 ≠ 4 then (if X.q.kind = 5 then (X, .two [] s) else overP X (traceF X.N s r.lo) noTk) else (X, .one (p ++ [d]) (nextDev X.N (stepF X.N d r.lo).2))
    | _, _ => (X, .one p d)
  | .two p d => match X.S, X.P with
    | s :: ss, r :: rs => if d ∈ p ∨ (stepF X.M d r.lo).1 ≠ 4 then overP X (traceF X.N s r.lo) (traceF X.M s r.lo) else (X, .two (p ++ [d]) (nextDev X.M (stepF X.M d r.lo).2))
    | _, _ => (X, .two p d)
  | .fin V => (X, .fin V)
structure OkB (X : PB) : Prop where
  n : NwOK X.N
  m : NwOK X.M
  a : ∃ r rs, X.A = r :: rs
  al : X.A.length < 2 ^ 60
  sl : X.S.length < 2 ^ 60
  pl : X.P.length < 2 ^ 60
/-- What a unit leaves alone. -/
def Kq (ip : Id) (v w v' w' : AV) (σ τ : St) : Prop := (∀ i o, i ≠ ip → ¬ isAt v i → ¬ isAt w i → σ.m i = some o → τ.m i = some o ∧ ¬ isAt v' i ∧ ¬ isAt w' i) ∧ ∀ s, σ.nx s ≤ τ.nx s
theorem nilAV_at (i : Id) : ¬ isAt nilAV i := fun ⟨l, e⟩ => by cases e
theorem nil_own (σ : St) : OwnB σ nilAV [] := .inl ⟨rfl, rfl⟩
theorem Way.tlen {n : Nw} (hn : NwOK n) (a d : Int) : (traceF n d a).path.length < 2 ^ 44 := by
  have hk := hn.links
  have : ∀ f d p, (walkT n a f d p).path.length ≤ p.length + f := by
    intro f
    induction f with
    | zero => intro d p; simp [walkT]
    | succ f ih =>
      intro d p
      rw [walkT]
      split
      · simp
      · split
        · have := ih (nextDev n (stepF n d a).2) (p ++ [d])
          simp only [List.length_append, List.length_singleton] at this; omega
        · simp
  have := this (2 + 2 * n.t.links.length) d []
  unfold traceF
  simp only [List.length_nil] at this
  omega

/-- The ends of a trace, together. -/
theorem over_calls {ip : Id} (hsz : ip.sz = 34) {X : PB} (hX : OkB X) {d : Int} {v : AV} {t : Tk} {w : AV} {u : Tk} {nx : AV} {σ : St} (m : σ.m ip = some (pbOb X d v (t.out, t.last) w (u.out, u.last) nx false vc0))
    (hv : OwnB σ v (t.path.map iAV)) (hw : OwnB σ w (u.path.map iAV)) (ht : t.path.length < 2 ^ 44) (hu : u.path.length < 2 ^ 44) (hnx : nx.cells = [nx] ∧ cellOK nx = true)
    {s : Int} {ss : List Int} (hS : X.S = s :: ss) {r : Rg} {rs : List Rg} (hP : X.P = r :: rs) (hd : ∀ j, isAt v j → ¬ isAt w j) {K : AV → St → Prop}
    (hK : ∀ τ v' w', PbR ip (overP X t u).1 (overP X t u).2 v' w' τ → Kq ip v w v' w' σ τ → K (.tup []) τ) :
    ACalls Try.prog 131 [.rp ip 0 0] σ K := by
  have hat : ∀ {v : AV} {es : List AV}, OwnB σ v es → ¬ isAt v ip := by
    rintro v es (⟨_, rfl⟩ | ⟨j, rfl, hj, _⟩) ⟨l, e⟩
    · cases e
    · injection e with e; subst e; rw [hsz] at hj; cases hj
  obtain ⟨N, M, F, G, q, S, A, P⟩ := X
  dsimp only at hS hP
  subst hS; subst hP
  unfold overP at hK
  dsimp only at hK
  refine ended_calls hsz m hv hw (by omega) (by omega) hnx rfl rfl hX.sl hX.pl ?_ ?_ ?_ ?_
  · intro hb τ mτ hE
    rw [if_pos hb] at hK
    exact hK τ v nilAV ⟨rfl, hv.ex (hat hv) hE, ht, _, _, _, _, _, _, mτ⟩ ⟨fun i o n n1 n2 e => ⟨hE.1 i o n e, n1, nilAV_at i⟩, hE.2⟩
  · intro hb hne τ mτ hE
    rw [if_neg (by simp [hb])] at hK
    cases rs with
    | nil => exact absurd rfl hne
    | cons r' rs =>
      exact hK τ nilAV nilAV ⟨rfl, nil_own _, s, ss, r', rs, _, rfl, rfl, Way.start _ _ _, mτ⟩ ⟨fun i o n n1 n2 e => ⟨hE.1 i o n e, nilAV_at i, nilAV_at i⟩, hE.2⟩
  · intro hb e1 e2 τ mτ hE
    rw [if_neg (by simp [hb])] at hK
    subst e1; subst e2
    exact hK τ nilAV nilAV ⟨rfl, nil_own _, by decide, _, _, _, _, _, _, mτ⟩ ⟨fun i o n n1 n2 e => ⟨hE.1 i o n e, nilAV_at i, nilAV_at i⟩, hE.2⟩
  · intro hb e1 s' ss' e2 τ mτ hE
    rw [if_neg (by simp [hb])] at hK
    subst e1; subst e2
    obtain ⟨r', rs', hA⟩ := hX.a
    exact hK τ nilAV nilAV ⟨rfl, nil_own _, s', ss', r', rs', _, rfl, hA, Way.start _ _ _, mτ⟩ ⟨fun i o n n1 n2 e => ⟨hE.1 i o n e, nilAV_at i, nilAV_at i⟩, hE.2⟩
end Go.Proofs.Ytanimmdlgmkmkaa.Av


/- Probes: the two functions of a unit. -/
namespace Go.Proofs.Ytanimmdlgmkmkaa.Av
open Go
set_option linter.unusedSimpArgs false
set_option linter.unusedVariables false
set_option maxRecDepth 100000
set_option maxHeartbeats 4000000
set_option pp.maxSteps 600

theorem Kq.one {ip : Id} {v v' : AV} {σ τ : St} (h : Kp ip v v' σ τ) : Kq ip v nilAV v' nilAV σ τ := ⟨fun i o n n1 n2 e => ⟨(h.1 i o n n1 e).1, (h.1 i o n n1 e).2, nilAV_at i⟩, h.2⟩
theorem Kq.two {ip : Id} {v w w' : AV} {σ τ : St} (h : Kp ip w w' σ τ) : Kq ip v w v w' σ τ := ⟨fun i o n n1 n2 e => ⟨(h.1 i o n n2 e).1, n1, (h.1 i o n n2 e).2⟩, h.2⟩
theorem Kq.trans {ip : Id} {v w v' w' v'' w'' : AV} {ρ σ τ : St} (h : Kq ip v w v' w' ρ σ) (k : Kq ip v' w' v'' w'' σ τ) : Kq ip v w v'' w'' ρ τ :=
  ⟨fun i o n n1 n2 e => by obtain ⟨a, b, c⟩ := h.1 i o n n1 n2 e; exact k.1 i o n b c a, fun s => Nat.le_trans (h.2 s) (k.2 s)⟩
theorem Kq.ex {ip : Id} {v w v' w' : AV} {ρ σ τ : St} (h : Kq ip v w v' w' ρ σ) (k : Ex ip σ τ) : Kq ip v w v' w' ρ τ :=
  ⟨fun i o n n1 n2 e => by obtain ⟨a, b, c⟩ := h.1 i o n n1 n2 e; exact ⟨k.1 i o n a, b, c⟩, fun s => Nat.le_trans (h.2 s) (k.2 s)⟩
theorem own_at {ip : Id} (hsz : ip.sz = 34) {σ : St} {v : AV} {es : List AV} (h : OwnB σ v es) : ¬ isAt v ip := by
  rcases h with ⟨_, rfl⟩ | ⟨j, rfl, hj, _⟩
  · rintro ⟨l, e⟩; cases e
  · rintro ⟨l, e⟩
    injection e with e; subst e; rw [hsz] at hj; cases hj

theorem pfirst_calls {ip : Id} (hsz : ip.sz = 34) {X : PB} (hX : OkB X) {p : List Int} {d : Int} {v w : AV} {σ : St} (h : PbR ip X (.one p d) v w σ) {K : AV → St → Prop}
    (hK : ∀ τ v' w', PbR ip (stepP X (.one p d)).1 (stepP X (.one p d)).2 v' w' τ → Kq ip v w v' w' σ τ → K (.tup []) τ) : ACalls Try.prog 99 [.rp ip 0 0] σ K := by
  obtain ⟨rfl, hB, s, ss, r, rs, x, hS, hP, hw, m⟩ := h
  have hS' : intsAV X.S false = .sl 1 (iAV s :: ss.map iAV) false := by rw [hS]; rfl
  have hvis := fun K kf kt => visit1_calls (K := K) hsz hX.n hP hw m hB kf kt
  have ht := Way.tlen hX.n r.lo s
  simp only [stepP, hS, hP] at hK
  simp only [pbOb, pbRow] at m
  refine abody Try.func99 rfl (N := 35) rfl rfl (by simp) ?_
  (try ((first | with_reducible refine dops_go ?_ | with_reducible refine OKv_go ?_ | with_reducible refine OKr_go ?_); simp [-cellOK, m, nw_fold])); repeat' (first | refine awp_seq ?_ | refine awp_block ?_ | (refine awp_skip ?_; try simp) | (refine awp_exit ?_; try simp) | (refine awp_ret ?_; try simp) | ((first | refine awp_reg ?_ | refine awp_drawT (fun _ => false) mixed (by decide +kernel) ?_ | refine awp_drawT isCallO mixed (by decide +kernel) ?_); simp [-cellOK, m, nw_fold]) | (refine guarded_split ?_ ?_ <;> (intro hg; simp only [hg]; simp [-cellOK, m, nw_fold])) | (apply awp_cond_t; focus (simp [-cellOK, m, nw_fold]; done)) | (apply awp_cond_f; focus (simp [-cellOK, m, nw_fold]; done)) | (refine awp_cond ?_; simp [-cellOK, m, nw_fold]; refine ⟨?_, ?_⟩ <;> intro hc) | fail)
  refine hvis _ (fun τ v' he mτ hB' hKp => ?_) (fun τ v' he mτ hB' hKp => ?_)
  · rw [if_pos he] at hK
    have m1 := mτ
    simp only [pbOb, pbRow] at m1
    by_cases k5 : X.q.kind = 5
    · rw [if_pos k5] at hK
      (try ((first | with_reducible refine dops_go ?_ | with_reducible refine OKv_go ?_ | with_reducible refine OKr_go ?_); simp [-cellOK, m1, k5, hS', iAV, set_m])); repeat' (first | refine awp_seq ?_ | refine awp_block ?_ | (refine awp_skip ?_; try simp) | (refine awp_exit ?_; try simp) | (refine awp_ret ?_; try simp) | ((first | refine awp_reg ?_ | refine awp_drawT (fun _ => false) mixed (by decide +kernel) ?_ | refine awp_drawT isCallO mixed (by decide +kernel) ?_); simp [-cellOK, m1, k5, hS', iAV, set_m]) | (refine guarded_split ?_ ?_ <;> (intro hg; simp only [hg]; simp [-cellOK, m1, k5, hS', iAV, set_m])) | (apply awp_cond_t; focus (simp [-cellOK, m1, k5, hS', iAV, set_m]; done)) | (apply awp_cond_f; focus (simp [-cellOK, m1, k5, hS', iAV, set_m]; done)) | (refine awp_cond ?_; simp [-cellOK, m1, k5, hS', iAV, set_m]; refine ⟨?_, ?_⟩ <;> intro hc) | fail)
      refine retK_of (.inl rfl) (x := .tup []) (by simp) (hK _ v' nilAV ⟨nil_own _, fun j _ => nilAV_at j, k5, s, ss, r, rs, 0, hS, hP, Way.start _ _ _, hB'.ex (own_at hsz hB') ?_, ?_⟩ ((Kq.one hKp).ex ?_))
      · exact ((Ex.refl _ _).set _).set _
      · simp [set_m, m1, pbOb, pbRow, secondAV, z0, hS', iAV, k5]
      · exact ((Ex.refl _ _).set _).set _
    · rw [if_neg k5] at hK
      have k5' := eq_false k5
      (try ((first | with_reducible refine dops_go ?_ | with_reducible refine OKv_go ?_ | with_reducible refine OKr_go ?_); simp [-cellOK, m1, k5', hS', iAV, set_m])); repeat' (first | refine awp_seq ?_ | refine awp_block ?_ | (refine awp_skip ?_; try simp) | (refine awp_exit ?_; try simp) | (refine awp_ret ?_; try simp) | ((first | refine awp_reg ?_ | refine awp_drawT (fun _ => false) mixed (by decide +kernel) ?_ | refine awp_drawT isCallO mixed (by decide +kernel) ?_); simp [-cellOK, m1, k5', hS', iAV, set_m]) | (refine guarded_split ?_ ?_ <;> (intro hg; simp only [hg]; simp [-cellOK, m1, k5', hS', iAV, set_m])) | (apply awp_cond_t; focus (simp [-cellOK, m1, k5', hS', iAV, set_m]; done)) | (apply awp_cond_f; focus (simp [-cellOK, m1, k5', hS', iAV, set_m]; done)) | (refine awp_cond ?_; simp [-cellOK, m1, k5', hS', iAV, set_m]; refine ⟨?_, ?_⟩ <;> intro hc) | fail)
      refine over_calls hsz hX (u := noTk) mτ hB' (nil_own _) ht (by decide) ⟨rfl, rfl⟩ hS hP (fun j _ => nilAV_at j) fun τ2 v2 w2 h2 k2 => ?_
      (try ((first | with_reducible refine dops_go ?_ | with_reducible refine OKv_go ?_ | with_reducible refine OKr_go ?_); simp [-cellOK])); repeat' (first | refine awp_seq ?_ | refine awp_block ?_ | (refine awp_skip ?_; try simp) | (refine awp_exit ?_; try simp) | (refine awp_ret ?_; try simp) | ((first | refine awp_reg ?_ | refine awp_drawT (fun _ => false) mixed (by decide +kernel) ?_ | refine awp_drawT isCallO mixed (by decide +kernel) ?_); simp [-cellOK]) | (refine guarded_split ?_ ?_ <;> (intro hg; simp only [hg]; simp [-cellOK])) | (apply awp_cond_t; focus (simp [-cellOK]; done)) | (apply awp_cond_f; focus (simp [-cellOK]; done)) | (refine awp_cond ?_; simp [-cellOK]; refine ⟨?_, ?_⟩ <;> intro hc) | fail)
      exact retK_of (.inl rfl) (x := .tup []) (by simp) (hK _ v2 w2 h2 ((Kq.one hKp).trans k2))
  · rw [if_neg he] at hK
    (try ((first | with_reducible refine dops_go ?_ | with_reducible refine OKv_go ?_ | with_reducible refine OKr_go ?_); simp [-cellOK])); repeat' (first | refine awp_seq ?_ | refine awp_block ?_ | (refine awp_skip ?_; try simp) | (refine awp_exit ?_; try simp) | (refine awp_ret ?_; try simp) | ((first | refine awp_reg ?_ | refine awp_drawT (fun _ => false) mixed (by decide +kernel) ?_ | refine awp_drawT isCallO mixed (by decide +kernel) ?_); simp [-cellOK]) | (refine guarded_split ?_ ?_ <;> (intro hg; simp only [hg]; simp [-cellOK])) | (apply awp_cond_t; focus (simp [-cellOK]; done)) | (apply awp_cond_f; focus (simp [-cellOK]; done)) | (refine awp_cond ?_; simp [-cellOK]; refine ⟨?_, ?_⟩ <;> intro hc) | fail)
    exact retK_of (.inl rfl) (x := .tup []) (by simp) (hK _ v' nilAV ⟨rfl, hB', s, ss, r, rs, 4, hS, hP, hw.on (fun h => he (.inl h)) (Classical.byContradiction fun h => he (.inr h)), mτ⟩ (Kq.one hKp))

theorem psecond_calls {ip : Id} (hsz : ip.sz = 34) {X : PB} (hX : OkB X) {p : List Int} {d : Int} {v w : AV} {σ : St} (h : PbR ip X (.two p d) v w σ) {K : AV → St → Prop}
    (hK : ∀ τ v' w', PbR ip (stepP X (.two p d)).1 (stepP X (.two p d)).2 v' w' τ → Kq ip v w v' w' σ τ → K (.tup []) τ) : ACalls Try.prog 130 [.rp ip 0 0] σ K := by
  obtain ⟨hB, hdis, k5, s, ss, r, rs, x, hS, hP, hw, hv, m⟩ := h
  have hvis := fun K kf kt => visit2_calls (K := K) hsz hX.m hP hw m hB kf kt
  have ht := Way.tlen hX.n r.lo s
  have hu := Way.tlen hX.m r.lo s
  simp only [stepP, hS, hP] at hK
  simp only [pbOb, pbRow] at m
  refine abody Try.func130 rfl (N := 14) rfl rfl (by simp) ?_
  (try ((first | with_reducible refine dops_go ?_ | with_reducible refine OKv_go ?_ | with_reducible refine OKr_go ?_); simp [-cellOK, m, nw_fold])); repeat' (first | refine awp_seq ?_ | refine awp_block ?_ | (refine awp_skip ?_; try simp) | (refine awp_exit ?_; try simp) | (refine awp_ret ?_; try simp) | ((first | refine awp_reg ?_ | refine awp_drawT (fun _ => false) mixed (by decide +kernel) ?_ | refine awp_drawT isCallO mixed (by decide +kernel) ?_); simp [-cellOK, m, nw_fold]) | (refine guarded_split ?_ ?_ <;> (intro hg; simp only [hg]; simp [-cellOK, m, nw_fold])) | (apply awp_cond_t; focus (simp [-cellOK, m, nw_fold]; done)) | (apply awp_cond_f; focus (simp [-cellOK, m, nw_fold]; done)) | (refine awp_cond ?_; simp [-cellOK, m, nw_fold]; refine ⟨?_, ?_⟩ <;> intro hc) | fail)
  have hv' : ∀ {τ w'}, Kp ip w w' σ τ → OwnB τ v ((traceF X.N s r.lo).path.map iAV) ∧ ∀ j, isAt v j → ¬ isAt w' j := by
    intro τ w' hKp
    rcases hv with ⟨e1, e2⟩ | ⟨j, e, hj, hm⟩
    · exact ⟨.inl ⟨e1, e2⟩, fun j hj => by rw [e2] at hj; exact absurd hj (nilAV_at j)⟩
    · have a1 : isAt v j := ⟨_, e⟩
      obtain ⟨b1, b2⟩ := hKp.1 j _ (fun q => by rw [q, hsz] at hj; cases hj) (hdis j a1) hm
      refine ⟨.inr ⟨j, e, hj, b1⟩, fun i ⟨l, hi⟩ => ?_⟩
      rw [e] at hi
      injection hi with hi; subst hi; exact b2
  refine hvis _ (fun τ w' he mτ hB' hKp => ?_) (fun τ w' he mτ hB' hKp => ?_)
  · rw [if_pos he] at hK
    obtain ⟨hv1, hd1⟩ := hv' hKp
    (try ((first | with_reducible refine dops_go ?_ | with_reducible refine OKv_go ?_ | with_reducible refine OKr_go ?_); simp [-cellOK])); repeat' (first | refine awp_seq ?_ | refine awp_block ?_ | (refine awp_skip ?_; try simp) | (refine awp_exit ?_; try simp) | (refine awp_ret ?_; try simp) | ((first | refine awp_reg ?_ | refine awp_drawT (fun _ => false) mixed (by decide +kernel) ?_ | refine awp_drawT isCallO mixed (by decide +kernel) ?_); simp [-cellOK]) | (refine guarded_split ?_ ?_ <;> (intro hg; simp only [hg]; simp [-cellOK])) | (apply awp_cond_t; focus (simp [-cellOK]; done)) | (apply awp_cond_f; focus (simp [-cellOK]; done)) | (refine awp_cond ?_; simp [-cellOK]; refine ⟨?_, ?_⟩ <;> intro hc) | fail)
    refine over_calls hsz hX mτ hv1 hB' ht hu ⟨rfl, rfl⟩ hS hP hd1 fun τ2 v2 w2 h2 k2 => ?_
    (try ((first | with_reducible refine dops_go ?_ | with_reducible refine OKv_go ?_ | with_reducible refine OKr_go ?_); simp [-cellOK])); repeat' (first | refine awp_seq ?_ | refine awp_block ?_ | (refine awp_skip ?_; try simp) | (refine awp_exit ?_; try simp) | (refine awp_ret ?_; try simp) | ((first | refine awp_reg ?_ | refine awp_drawT (fun _ => false) mixed (by decide +kernel) ?_ | refine awp_drawT isCallO mixed (by decide +kernel) ?_); simp [-cellOK]) | (refine guarded_split ?_ ?_ <;> (intro hg; simp only [hg]; simp [-cellOK])) | (apply awp_cond_t; focus (simp [-cellOK]; done)) | (apply awp_cond_f; focus (simp [-cellOK]; done)) | (refine awp_cond ?_; simp [-cellOK]; refine ⟨?_, ?_⟩ <;> intro hc) | fail)
    exact retK_of (.inl rfl) (x := .tup []) (by simp) (hK _ v2 w2 h2 ((Kq.two hKp).trans k2))
  · rw [if_neg he] at hK
    obtain ⟨hv1, hd1⟩ := hv' hKp
    (try ((first | with_reducible refine dops_go ?_ | with_reducible refine OKv_go ?_ | with_reducible refine OKr_go ?_); simp [-cellOK])); repeat' (first | refine awp_seq ?_ | refine awp_block ?_ | (refine awp_skip ?_; try simp) | (refine awp_exit ?_; try simp) | (refine awp_ret ?_; try simp) | ((first | refine awp_reg ?_ | refine awp_drawT (fun _ => false) mixed (by decide +kernel) ?_ | refine awp_drawT isCallO mixed (by decide +kernel) ?_); simp [-cellOK]) | (refine guarded_split ?_ ?_ <;> (intro hg; simp only [hg]; simp [-cellOK])) | (apply awp_cond_t; focus (simp [-cellOK]; done)) | (apply awp_cond_f; focus (simp [-cellOK]; done)) | (refine awp_cond ?_; simp [-cellOK]; refine ⟨?_, ?_⟩ <;> intro hc) | fail)
    exact retK_of (.inl rfl) (x := .tup []) (by simp) (hK _ v w' ⟨hB', hd1, k5, s, ss, r, rs, 4, hS, hP, hw.on (fun h => he (.inl h)) (Classical.byContradiction fun h => he (.inr h)), hv1, mτ⟩ (Kq.two hKp))
end Go.Proofs.Ytanimmdlgmkmkaa.Av


/- Probes: done, and the verdict. -/
namespace Go.Proofs.Ytanimmdlgmkmkaa.Av
open Go
set_option linter.unusedSimpArgs false
set_option linter.unusedVariables false
set_option maxRecDepth 100000
set_option maxHeartbeats 4000000
set_option pp.maxSteps 600

theorem ownClone_calls {σ : St} {v : AV} {l : List Int} (h : OwnB σ v (l.map iAV)) (hl : l.length < 2 ^ 44) {K : AV → St → Prop} (hK : ∀ τ, Ext σ τ → K (intsAV l false) τ) : ACalls Try.prog 54 [v] σ K := by
  rcases h with ⟨e1, rfl⟩ | ⟨j, rfl, hj, m⟩
  · have e : l = [] := by simpa using e1
    subst e
    refine ACalls.args (bs := [intsAV [] false]) (fun S vs h => ?_) ((intClone_calls [] false (by decide)).use (hK _ (Ext.refl _)))
    simp only [LRel, intsAV, List.map_nil] at h ⊢
    obtain ⟨x, xs, e, h1, h2⟩ := h
    exact ⟨x, xs, e, weaker_sl _ _ h1, h2⟩
  · refine abody Try.func54 rfl (N := 8) rfl rfl (by simp) ?_
    (try ((first | with_reducible refine dops_go ?_ | with_reducible refine OKv_go ?_ | with_reducible refine OKr_go ?_); simp [-cellOK, -opAppend])); repeat' (first | refine awp_seq ?_ | refine awp_block ?_ | (refine awp_skip ?_; try simp) | (refine awp_exit ?_; try simp) | (refine awp_ret ?_; try simp) | ((first | refine awp_reg ?_ | refine awp_drawT (fun _ => false) mixed (by decide +kernel) ?_ | refine awp_drawT isCallO mixed (by decide +kernel) ?_); simp [-cellOK, -opAppend]) | (refine guarded_split ?_ ?_ <;> (intro hg; simp only [hg]; simp [-cellOK, -opAppend])) | (apply awp_cond_t; focus (simp [-cellOK, -opAppend]; done)) | (apply awp_cond_f; focus (simp [-cellOK, -opAppend]; done)) | (refine awp_cond ?_; simp [-cellOK, -opAppend]; refine ⟨?_, ?_⟩ <;> intro hc) | fail)
    refine okr_append slt22 (σ0 := σ) (es := []) (OwnL.of rfl (by simp) (fresh_none _ _ _) rfl) (Ext.new _ _ _ _) (ys := l.map iAV) (by simp [new_up _ _ m, List.take_of_length_le]) (.inr hj) (ok_ints _) (by simp at hl ⊢; omega) ?_
    intro v1 τ1 hO1 hE1 _ _
    rw [List.nil_append] at hO1
    (try ((first | with_reducible refine dops_go ?_ | with_reducible refine OKv_go ?_ | with_reducible refine OKr_go ?_); simp [-cellOK, -opAppend])); repeat' (first | refine awp_seq ?_ | refine awp_block ?_ | (refine awp_skip ?_; try simp) | (refine awp_exit ?_; try simp) | (refine awp_ret ?_; try simp) | ((first | refine awp_reg ?_ | refine awp_drawT (fun _ => false) mixed (by decide +kernel) ?_ | refine awp_drawT isCallO mixed (by decide +kernel) ?_); simp [-cellOK, -opAppend]) | (refine guarded_split ?_ ?_ <;> (intro hg; simp only [hg]; simp [-cellOK, -opAppend])) | (apply awp_cond_t; focus (simp [-cellOK, -opAppend]; done)) | (apply awp_cond_f; focus (simp [-cellOK, -opAppend]; done)) | (refine awp_cond ?_; simp [-cellOK, -opAppend]; refine ⟨?_, ?_⟩ <;> intro hc) | fail)
    exact retK_own (.inr rfl) (by simp) hO1 hE1 fun τ hE => hK τ hE
theorem done_calls {ip : Id} {X : PB} {d : Int} {v : AV} {t : Int × Pt} {w : AV} {u : Int × Pt} {nx : AV} {dn : Bool} {r : VC} {σ : St} (m : σ.m ip = some (pbOb X d v t w u nx dn r)) {K : AV → St → Prop}
    (hK : K (.raw (.bool dn)) σ) : ACalls Try.prog 30 [.rp ip 0 0] σ K := by
  simp only [pbOb, pbRow] at m
  refine abody Try.func30 rfl (N := 11) rfl rfl (by simp) ?_
  (try ((first | with_reducible refine dops_go ?_ | with_reducible refine OKv_go ?_ | with_reducible refine OKr_go ?_); simp [-cellOK, m])); repeat' (first | refine awp_seq ?_ | refine awp_block ?_ | (refine awp_skip ?_; try simp) | (refine awp_exit ?_; try simp) | (refine awp_ret ?_; try simp) | ((first | refine awp_reg ?_ | refine awp_drawT (fun _ => false) mixed (by decide +kernel) ?_ | refine awp_drawT isCallO mixed (by decide +kernel) ?_); simp [-cellOK, m]) | (refine guarded_split ?_ ?_ <;> (intro hg; simp only [hg]; simp [-cellOK, m])) | (apply awp_cond_t; focus (simp [-cellOK, m]; done)) | (apply awp_cond_f; focus (simp [-cellOK, m]; done)) | (refine awp_cond ?_; simp [-cellOK, m]; refine ⟨?_, ?_⟩ <;> intro hc) | fail)
  exact retK_of (.inr rfl) (by simp) hK
theorem done0_calls : PCalls Try.prog 30 [.raw (.pointer none)] (.raw (.bool false)) := by
  refine pbody Try.func30 rfl (N := 11) rfl rfl (by simp) (by simp [noIds]) fun σ => ?_
  (try ((first | with_reducible refine dops_go ?_ | with_reducible refine OKv_go ?_ | with_reducible refine OKr_go ?_); simp [-cellOK])); repeat' (first | refine awp_seq ?_ | refine awp_block ?_ | (refine awp_skip ?_; try simp) | (refine awp_exit ?_; try simp) | (refine awp_ret ?_; try simp) | (refine retP_same (by simp) ?_; simp) | (refine retP_no (by simp) (by simp [noIds]) (by repeat (first | assumption | exact Ext.refl _ | refine ext_new' ?_ | refine Ext.setF ?_ (by first | assumption | (simp [new_nx', St.set, fresh_none]; done) | exact ext_fresh (by assumption)))) ?_; simp [-cellOK, new_m, set_m, new_nx']) | ((first | refine awp_reg ?_ | refine awp_drawT (fun _ => false) mixed (by decide +kernel) ?_ | refine awp_drawT isCallO mixed (by decide +kernel) ?_); simp [-cellOK]) | (refine guarded_split ?_ ?_ <;> (intro hg; simp only [hg]; simp [-cellOK])) | (apply awp_cond_t; focus (simp [-cellOK]; done)) | (apply awp_cond_f; focus (simp [-cellOK]; done)) | (refine awp_cond ?_; simp [-cellOK]; refine ⟨?_, ?_⟩ <;> intro hc) | fail)
theorem weaker_vdb (b e : Bool) : Weaker (.tup [.agg [.raw (.bool b), .raw (.int .i64 0), .raw (.int .u32 0), .sl 0 [] true, .raw (.int .i64 0), .raw (.int .i64 0), .raw (.int .i64 0)], .raw (.bool e)]) (.tup [vdAV ⟨b, 0, 0, noTk⟩ false, .raw (.bool e)]) := by
  intro S v h
  simp only [vdAV, noTk, intsAV, List.map_nil, VRel, LRel] at h ⊢
  obtain ⟨l, rfl, u, us, h1, ⟨l2, rfl, h2⟩, h3⟩ := h
  refine ⟨l, rfl, _, us, h1, ⟨l2, rfl, ?_⟩, h3⟩
  obtain ⟨x1, y1, e1, p1, x2, y2, e2, p2, x3, y3, e3, p3, x4, y4, e4, ⟨base, cap, e, q1, q2, q3⟩, p5⟩ := h2
  exact ⟨x1, y1, e1, p1, x2, y2, e2, p2, x3, y3, e3, p3, x4, y4, e4, ⟨base, cap, e, q1, by simp, by simp⟩, p5⟩
theorem verdict0_calls : PCalls Try.prog 27 [.raw (.pointer none)] (.tup [vdAV ⟨false, 0, 0, noTk⟩ false, .raw (.bool false)]) := by
  have hd := done0_calls
  refine pbody Try.func27 rfl (N := 20) rfl rfl (by simp) (by simp [noIds]) fun σ => ?_
  (try ((first | with_reducible refine dops_go ?_ | with_reducible refine OKv_go ?_ | with_reducible refine OKr_go ?_); simp [-cellOK, set_m, new_m])); repeat' (first | refine awp_seq ?_ | refine awp_block ?_ | (refine awp_skip ?_; try simp) | (refine awp_exit ?_; try simp) | (refine awp_ret ?_; try simp) | ((first | refine awp_reg ?_ | refine awp_drawT (fun _ => false) mixed (by decide +kernel) ?_ | refine awp_drawT isCallO mixed (by decide +kernel) ?_ | refine PCalls.use (hd) ?_ | refine Or.inl ⟨_, Or.inl (hd), ?_⟩); simp [-cellOK, set_m, new_m]) | (refine guarded_split ?_ ?_ <;> (intro hg; simp only [hg]; simp [-cellOK, set_m, new_m])) | (apply awp_cond_t; focus (simp [-cellOK, set_m, new_m]; done)) | (apply awp_cond_f; focus (simp [-cellOK, set_m, new_m]; done)) | (refine awp_cond ?_; simp [-cellOK, set_m, new_m]; refine ⟨?_, ?_⟩ <;> intro hc) | fail)
  exact retP_weak (x := .tup [.agg [.raw (.bool false), .raw (.int .i64 0), .raw (.int .u32 0), .sl 0 [] true, .raw (.int .i64 0), .raw (.int .i64 0), .raw (.int .i64 0)], .raw (.bool false)]) (.inr rfl) (by repeat (first | assumption | exact Ext.refl _ | refine ext_new' ?_ | refine Ext.setF ?_ (by first | assumption | (simp [new_nx', St.set, fresh_none]; done) | exact ext_fresh (by assumption)))) (by simp [set_m, new_m]) (by simpa [giveUps, giveUp] using weaker_vdb false false)
theorem verdict_calls {ip : Id} (hsz : ip.sz = 34) {X : PB} {V : Vd} {v w : AV} {σ : St} (h : PbR ip X (.fin V) v w σ) {K : AV → St → Prop}
    (hK : ∀ τ, Ext σ τ → K (.tup [vdAV V false, .raw (.bool true)]) τ) : ACalls Try.prog 27 [.rp ip 0 0] σ K := by
  obtain ⟨rfl, hB, hl, d, v', t, w', u, nx, m⟩ := h
  obtain ⟨vc, vo⟩ := hB.cells
  refine abody Try.func27 rfl (N := 20) rfl rfl (by simp) ?_
  (try ((first | with_reducible refine dops_go ?_ | with_reducible refine OKv_go ?_ | with_reducible refine OKr_go ?_); simp [-cellOK, set_m, new_m])); repeat' (first | refine awp_seq ?_ | refine awp_block ?_ | (refine awp_skip ?_; try simp) | (refine awp_exit ?_; try simp) | (refine awp_ret ?_; try simp) | ((first | refine awp_reg ?_ | refine awp_drawT (fun _ => false) mixed (by decide +kernel) ?_ | refine awp_drawT isCallO mixed (by decide +kernel) ?_); simp [-cellOK, set_m, new_m]) | (refine guarded_split ?_ ?_ <;> (intro hg; simp only [hg]; simp [-cellOK, set_m, new_m])) | (apply awp_cond_t; focus (simp [-cellOK, set_m, new_m]; done)) | (apply awp_cond_f; focus (simp [-cellOK, set_m, new_m]; done)) | (refine awp_cond ?_; simp [-cellOK, set_m, new_m]; refine ⟨?_, ?_⟩ <;> intro hc) | fail)
  refine done_calls (X := X) (new_up _ _ m) ?_
  have m1 := m
  simp only [pbOb, pbRow] at m1
  have hne : ∀ a b, (ip = ⟨a, b, 7⟩) = False := fun a b => eq_false fun e => by rw [e] at hsz; cases hsz
  (try ((first | with_reducible refine dops_go ?_ | with_reducible refine OKv_go ?_ | with_reducible refine OKr_go ?_); simp [-cellOK, set_m, new_m, new_nx', m1, vc, vo, hne])); repeat' (first | refine awp_seq ?_ | refine awp_block ?_ | (refine awp_skip ?_; try simp) | (refine awp_exit ?_; try simp) | (refine awp_ret ?_; try simp) | ((first | refine awp_reg ?_ | refine awp_drawT (fun _ => false) mixed (by decide +kernel) ?_ | refine awp_drawT isCallO mixed (by decide +kernel) ?_); simp [-cellOK, set_m, new_m, new_nx', m1, vc, vo, hne]) | (refine guarded_split ?_ ?_ <;> (intro hg; simp only [hg]; simp [-cellOK, set_m, new_m, new_nx', m1, vc, vo, hne])) | (apply awp_cond_t; focus (simp [-cellOK, set_m, new_m, new_nx', m1, vc, vo, hne]; done)) | (apply awp_cond_f; focus (simp [-cellOK, set_m, new_m, new_nx', m1, vc, vo, hne]; done)) | (refine awp_cond ?_; simp [-cellOK, set_m, new_m, new_nx', m1, vc, vo, hne]; refine ⟨?_, ?_⟩ <;> intro hc) | fail)
  have hES : Ext σ (St.set (St.new (St.new σ 2 7 (.buf [vd0AV])) 4 7 (.buf [vd0AV])) ⟨4, σ.nx 4, 7⟩ (.buf [.agg [.raw (.bool V.holds), .raw (.int .i64 V.src), .raw (.int .u32 V.addr), v, .raw (.int .i64 V.tr.out), .raw (.int .i64 V.tr.last.dev), .raw (.int .i64 V.tr.last.port)]])) := (by repeat (first | assumption | exact Ext.refl _ | refine ext_new' ?_ | refine Ext.setF ?_ (by first | assumption | (simp [new_nx', St.set, fresh_none]; done) | exact ext_fresh (by assumption))))
  simp only [vd0AV] at hES
  generalize hST : St.set _ _ _ = ST at hES ⊢
  have g2 : ST.m ⟨2, σ.nx 2, 7⟩ = some (.buf [vd0AV]) := by rw [← hST]; simp [set_m, new_m, vd0AV]
  have g4 : ST.m ⟨4, σ.nx 4, 7⟩ = some (.buf [.agg [.raw (.bool V.holds), .raw (.int .i64 V.src), .raw (.int .u32 V.addr), v, .raw (.int .i64 V.tr.out), .raw (.int .i64 V.tr.last.dev), .raw (.int .i64 V.tr.last.port)]]) := by rw [← hST]; simp [set_m, new_m, new_nx']
  clear hST
  have f2 : σ.m ⟨2, σ.nx 2, 7⟩ = none := fresh_none _ _ _
  have f4 : σ.m ⟨4, σ.nx 4, 7⟩ = none := fresh_none _ _ _
  refine ownClone_calls (hB.up fun i o _ e => hES.1 i o e) (by omega) fun τ hE => ?_
  have g2 := hE.1 _ _ g2
  have g4 := hE.1 _ _ g4
  have hEτ := hES.trans hE
  clear hE hES
  simp only [vd0AV] at g2
  (try ((first | with_reducible refine dops_go ?_ | with_reducible refine OKv_go ?_ | with_reducible refine OKr_go ?_); simp [-cellOK, set_m, g2, g4, intsAV])); repeat' (first | refine awp_seq ?_ | refine awp_block ?_ | (refine awp_skip ?_; try simp) | (refine awp_exit ?_; try simp) | (refine awp_ret ?_; try simp) | ((first | refine awp_reg ?_ | refine awp_drawT (fun _ => false) mixed (by decide +kernel) ?_ | refine awp_drawT isCallO mixed (by decide +kernel) ?_); simp [-cellOK, set_m, g2, g4, intsAV]) | (refine guarded_split ?_ ?_ <;> (intro hg; simp only [hg]; simp [-cellOK, set_m, g2, g4, intsAV])) | (apply awp_cond_t; focus (simp [-cellOK, set_m, g2, g4, intsAV]; done)) | (apply awp_cond_f; focus (simp [-cellOK, set_m, g2, g4, intsAV]; done)) | (refine awp_cond ?_; simp [-cellOK, set_m, g2, g4, intsAV]; refine ⟨?_, ?_⟩ <;> intro hc) | fail)
  exact retK_of (x := .tup [vdAV V false, .raw (.bool true)]) (.inr rfl) (by simp [set_m, g2, g4, vdAV, intsAV]) (hK _ ((hEτ.setF f4).setF f2))
theorem step0_calls (f : Int) : PCalls Try.prog 26 [.raw (.pointer none), .raw (.int .i64 f)] (.tup [.raw (.int .i64 0), .raw (.int .i64 1)]) := by
  refine pbody Try.func26 rfl (N := 37) rfl rfl (by simp) (by simp [noIds]) fun σ => ?_
  (try ((first | with_reducible refine dops_go ?_ | with_reducible refine OKv_go ?_ | with_reducible refine OKr_go ?_); simp [-cellOK])); repeat' (first | refine awp_seq ?_ | refine awp_block ?_ | (refine awp_skip ?_; try simp) | (refine awp_exit ?_; try simp) | (refine awp_ret ?_; try simp) | (refine retP_same (by simp) ?_; simp) | (refine retP_no (by simp) (by simp [noIds]) (by repeat (first | assumption | exact Ext.refl _ | refine ext_new' ?_ | refine Ext.setF ?_ (by first | assumption | (simp [new_nx', St.set, fresh_none]; done) | exact ext_fresh (by assumption)))) ?_; simp [-cellOK, new_m, set_m, new_nx']) | ((first | refine awp_reg ?_ | refine awp_drawT (fun _ => false) mixed (by decide +kernel) ?_ | refine awp_drawT isCallO mixed (by decide +kernel) ?_); simp [-cellOK]) | (refine guarded_split ?_ ?_ <;> (intro hg; simp only [hg]; simp [-cellOK])) | (apply awp_cond_t; focus (simp [-cellOK]; done)) | (apply awp_cond_f; focus (simp [-cellOK]; done)) | (refine awp_cond ?_; simp [-cellOK]; refine ⟨?_, ?_⟩ <;> intro hc) | fail)
end Go.Proofs.Ytanimmdlgmkmkaa.Av


/- Probes: a step of any fuel. -/
namespace Go.Proofs.Ytanimmdlgmkmkaa.Av
open Go
set_option linter.unusedSimpArgs false
set_option linter.unusedVariables false
set_option maxRecDepth 100000
set_option maxHeartbeats 4000000
set_option pp.maxSteps 600

def Ph.done : Ph → Bool
  | .fin _ => true
  | _ => false
def Ph.nx (ip : Id) : Ph → AV
  | .one _ _ => firstAV ip
  | _ => secondAV ip
theorem PbR.ob {ip : Id} {X : PB} {ph : Ph} {v w : AV} {σ : St} (h : PbR ip X ph v w σ) : ∃ d v1 t w1 u nx r, σ.m ip = some (pbOb X d v1 t w1 u nx ph.done r) ∧ (ph.done = false → nx = ph.nx ip) := by
  cases ph with
  | one p d =>
    obtain ⟨rfl, hB, s, ss, r, rs, x, hS, hP, hw, m⟩ := h
    exact ⟨_, _, _, _, _, _, _, m, fun _ => rfl⟩
  | two p d =>
    obtain ⟨hB, hdis, k5, s, ss, r, rs, x, hS, hP, hw, hv, m⟩ := h
    exact ⟨_, _, _, _, _, _, _, m, fun _ => rfl⟩
  | fin V =>
    obtain ⟨rfl, hB, hl, d, v', t, w', u, nx, m⟩ := h
    exact ⟨_, _, _, _, _, _, _, m, fun h => by cases h⟩
theorem unit_calls {ip : Id} (hsz : ip.sz = 34) {X : PB} (hX : OkB X) {ph : Ph} (hd : ph.done = false) {v w : AV} {σ : St} (h : PbR ip X ph v w σ) {f : FuncId} (hf : ph.nx ip = .fn (.func f) [.rp ip 0 0] []) {K : AV → St → Prop}
    (hK : ∀ τ v' w', PbR ip (stepP X ph).1 (stepP X ph).2 v' w' τ → Kq ip v w v' w' σ τ → K (.tup []) τ) : ACalls Try.prog f [.rp ip 0 0] σ K := by
  cases ph with
  | one p d =>
    injection hf with e1
    injection e1 with e1
    subst e1
    exact pfirst_calls hsz hX h hK
  | two p d =>
    injection hf with e1
    injection e1 with e1
    subst e1
    exact psecond_calls hsz hX h hK
  | fin V => cases hd
theorem Ph.nx_fn (ip : Id) (ph : Ph) : ∃ f, ph.nx ip = .fn (.func f) [.rp ip 0 0] [] := by
  cases ph
  · exact ⟨_, rfl⟩
  · exact ⟨_, rfl⟩
  · exact ⟨_, rfl⟩
theorem OkB.over {X : PB} (h : OkB X) (t u : Tk) : OkB (overP X t u).1 := by
  unfold overP
  have hs := h.sl
  have hp := h.pl
  split
  · rename_i s ss r rs hS hP
    rw [hS, List.length_cons] at hs
    rw [hP, List.length_cons] at hp
    split
    · exact h
    · split
      · exact ⟨h.n, h.m, h.a, h.al, h.sl, by show List.length (_ :: _) < _; simp only [List.length_cons] at *; omega⟩
      · split
        · exact ⟨h.n, h.m, h.a, h.al, by simp, h.al⟩
        · exact ⟨h.n, h.m, h.a, h.al, by show List.length (_ :: _) < _; simp only [List.length_cons] at *; omega, h.al⟩
  · exact h
theorem OkB.step {X : PB} (h : OkB X) (ph : Ph) : OkB (stepP X ph).1 := by
  unfold stepP
  split
  · split
    · split
      · split
        · exact h
        · exact h.over _ _
      · exact h
    · exact h
  · split
    · split
      · exact h.over _ _
      · exact h
    · exact h
  · exact h
/-- So many units, or as many as there are. -/
def goP : Nat → PB → Ph → (PB × Ph) × Nat
  | 0, X, ph => ((X, ph), 0)
  | k + 1, X, ph => if ph.done = true then ((X, ph), 0) else ((goP k (stepP X ph).1 (stepP X ph).2).1, (goP k (stepP X ph).1 (stepP X ph).2).2 + 1)
theorem goP_done (k : Nat) {X : PB} {ph : Ph} (h : ph.done = true) : goP k X ph = ((X, ph), 0) := by
  cases k with
  | zero => rfl
  | succ k => rw [goP, if_pos h]
theorem stepG_calls {ip : Id} (hsz : ip.sz = 34) {X : PB} (hX : OkB X) {ph : Ph} (hd : ph.done = false) {v w : AV} {σ : St} (h : PbR ip X ph v w σ) {f : Int} (hf : 1 ≤ f) (hf2 : f < 2 ^ 63) {K : AV → St → Prop}
    (hK : ∀ τ v' w', PbR ip (goP f.toNat X ph).1.1 (goP f.toNat X ph).1.2 v' w' τ → Kq ip v w v' w' σ τ → K (.tup [.raw (.int .i64 (goP f.toNat X ph).2), .raw (.int .i64 0)]) τ) :
    ACalls Try.prog 26 [.rp ip 0 0, .raw (.int .i64 f)] σ K := by
  obtain ⟨d, v1, t, w1, u, nx, r, m, hn⟩ := h.ob
  rw [hd] at m
  simp only [pbOb, pbRow] at m
  have f1 : (f < 1) = False := eq_false (by omega)
  refine abody Try.func26 rfl (N := 37) rfl rfl (by simp) ?_
  (try ((first | with_reducible refine dops_go ?_ | with_reducible refine OKv_go ?_ | with_reducible refine OKr_go ?_); simp [-cellOK, m, f1])); repeat' (first | refine awp_seq ?_ | refine awp_block ?_ | (refine awp_skip ?_; try simp) | (refine awp_exit ?_; try simp) | (refine awp_ret ?_; try simp) | ((first | refine awp_reg ?_ | refine awp_drawT (fun _ => false) mixed (by decide +kernel) ?_ | refine awp_drawT isCallO mixed (by decide +kernel) ?_); simp [-cellOK, m, f1]) | (refine guarded_split ?_ ?_ <;> (intro hg; simp only [hg]; simp [-cellOK, m, f1])) | (apply awp_cond_t; focus (simp [-cellOK, m, f1]; done)) | (apply awp_cond_f; focus (simp [-cellOK, m, f1]; done)) | (refine awp_cond ?_; simp [-cellOK, m, f1]; refine ⟨?_, ?_⟩ <;> intro hc) | fail)
  refine awp_loopH (fun n' B τ => B 0 = .rp ip 0 0 ∧ B 1 = .raw (.int .i64 f) ∧ ∃ k : Nat, B 6 = .raw (.int .i64 k) ∧ k ≤ f.toNat ∧ n' = f.toNat - k ∧ ∃ X' ph' v' w', OkB X' ∧ PbR ip X' ph' v' w' τ ∧ Kq ip v w v' w' σ τ ∧ goP f.toNat X ph = ((goP (f.toNat - k) X' ph').1, (goP (f.toNat - k) X' ph').2 + k)) f.toNat ?_ ?_
  · refine ⟨by simp, by simp, 0, by simp, by omega, by omega, X, ph, v, w, hX, h, ⟨fun i o n n1 n2 e => ⟨e, n1, n2⟩, fun _ => Nat.le_refl _⟩, by simp⟩
  · intro n' B τ hI I1 hI1
    obtain ⟨b0, b1, k, b6, hk, hn', X', ph', v', w', hX', h', hq, hg⟩ := hI
    obtain ⟨d', v2, t', w2, u', nx', r', m', hnx⟩ := h'.ob
    simp only [pbOb, pbRow] at m'
    by_cases hlt : k < f.toNat
    · have hlt' : ((k : Int) < f) = True := eq_true (by omega)
      cases hd' : ph'.done with
      | true =>
        rw [hd'] at m'
        (try ((first | with_reducible refine dops_go ?_ | with_reducible refine OKv_go ?_ | with_reducible refine OKr_go ?_); simp [-cellOK, b0, b1, b6, m', hlt'])); repeat' (first | refine awp_seq ?_ | refine awp_block ?_ | (refine awp_skip ?_; try simp) | (refine awp_exit ?_; try simp) | (refine awp_ret ?_; try simp) | ((first | refine awp_reg ?_ | refine awp_drawT (fun _ => false) mixed (by decide +kernel) ?_ | refine awp_drawT isCallO mixed (by decide +kernel) ?_); simp [-cellOK, b0, b1, b6, m', hlt']) | (refine guarded_split ?_ ?_ <;> (intro hg; simp only [hg]; simp [-cellOK, b0, b1, b6, m', hlt'])) | (apply awp_cond_t; focus (simp [-cellOK, b0, b1, b6, m', hlt']; done)) | (apply awp_cond_f; focus (simp [-cellOK, b0, b1, b6, m', hlt']; done)) | (refine awp_cond ?_; simp [-cellOK, b0, b1, b6, m', hlt']; refine ⟨?_, ?_⟩ <;> intro hc) | fail)
        rw [goP_done _ hd'] at hg
        rw [hg] at hK
        refine retK_of (.inr rfl) (x := .tup [.raw (.int .i64 k), .raw (.int .i64 0)]) (by simp) ?_
        have := hK τ v' w' h' hq
        simpa using this
      | false =>
        rw [hd'] at m'
        obtain ⟨fn, hfn⟩ := ph'.nx_fn ip
        have hnx := (hnx hd').trans hfn
        subst hnx
        have w1 : IntKind.i64.wrap ((k : Int) + 1) = ((k + 1 : Nat) : Int) := by rw [wrap64 (by omega) (by omega)]; omega
        (try ((first | with_reducible refine dops_go ?_ | with_reducible refine OKv_go ?_ | with_reducible refine OKr_go ?_); simp [-cellOK, b0, b1, b6, m', hlt'])); repeat' (first | refine awp_seq ?_ | refine awp_block ?_ | (refine awp_skip ?_; try simp) | (refine awp_exit ?_; try simp) | (refine awp_ret ?_; try simp) | ((first | refine awp_reg ?_ | refine awp_drawT (fun _ => false) mixed (by decide +kernel) ?_ | refine awp_drawT isCallO mixed (by decide +kernel) ?_); simp [-cellOK, b0, b1, b6, m', hlt']) | (refine guarded_split ?_ ?_ <;> (intro hg; simp only [hg]; simp [-cellOK, b0, b1, b6, m', hlt'])) | (apply awp_cond_t; focus (simp [-cellOK, b0, b1, b6, m', hlt']; done)) | (apply awp_cond_f; focus (simp [-cellOK, b0, b1, b6, m', hlt']; done)) | (refine awp_cond ?_; simp [-cellOK, b0, b1, b6, m', hlt']; refine ⟨?_, ?_⟩ <;> intro hc) | fail)
        refine unit_calls hsz hX' hd' h' hfn fun τ2 v2 w2 h2 k2 => ?_
        (try ((first | with_reducible refine dops_go ?_ | with_reducible refine OKv_go ?_ | with_reducible refine OKr_go ?_); simp [-cellOK, b0, b1, b6, w1])); repeat' (first | refine awp_seq ?_ | refine awp_block ?_ | (refine awp_skip ?_; try simp) | (refine awp_exit ?_; try simp) | (refine awp_ret ?_; try simp) | ((first | refine awp_reg ?_ | refine awp_drawT (fun _ => false) mixed (by decide +kernel) ?_ | refine awp_drawT isCallO mixed (by decide +kernel) ?_); simp [-cellOK, b0, b1, b6, w1]) | (refine guarded_split ?_ ?_ <;> (intro hg; simp only [hg]; simp [-cellOK, b0, b1, b6, w1])) | (apply awp_cond_t; focus (simp [-cellOK, b0, b1, b6, w1]; done)) | (apply awp_cond_f; focus (simp [-cellOK, b0, b1, b6, w1]; done)) | (refine awp_cond ?_; simp [-cellOK, b0, b1, b6, w1]; refine ⟨?_, ?_⟩ <;> intro hc) | fail)
        refine hI1 (f.toNat - (k + 1)) _ _ (by omega) ⟨by simp [b0], by simp [b1], k + 1, by simp, by omega, rfl, _, _, v2, w2, hX'.step ph', h2, hq.trans k2, ?_⟩
        rw [hg, show f.toNat - k = (f.toNat - (k + 1)) + 1 by omega, goP, if_neg (by simp [hd'])]
        ext1
        · rfl
        · show _ + 1 + k = _ + (k + 1); omega
    · have hlt' : ((k : Int) < f) = False := eq_false (by omega)
      (try ((first | with_reducible refine dops_go ?_ | with_reducible refine OKv_go ?_ | with_reducible refine OKr_go ?_); simp [-cellOK, b0, b1, b6, m', hlt'])); repeat' (first | refine awp_seq ?_ | refine awp_block ?_ | (refine awp_skip ?_; try simp) | (refine awp_exit ?_; try simp) | (refine awp_ret ?_; try simp) | ((first | refine awp_reg ?_ | refine awp_drawT (fun _ => false) mixed (by decide +kernel) ?_ | refine awp_drawT isCallO mixed (by decide +kernel) ?_); simp [-cellOK, b0, b1, b6, m', hlt']) | (refine guarded_split ?_ ?_ <;> (intro hg; simp only [hg]; simp [-cellOK, b0, b1, b6, m', hlt'])) | (apply awp_cond_t; focus (simp [-cellOK, b0, b1, b6, m', hlt']; done)) | (apply awp_cond_f; focus (simp [-cellOK, b0, b1, b6, m', hlt']; done)) | (refine awp_cond ?_; simp [-cellOK, b0, b1, b6, m', hlt']; refine ⟨?_, ?_⟩ <;> intro hc) | fail)
      rw [show f.toNat - k = 0 by omega] at hg
      simp only [goP] at hg
      rw [hg] at hK
      refine retK_of (.inr rfl) (x := .tup [.raw (.int .i64 k), .raw (.int .i64 0)]) (by simp) ?_
      have := hK τ v' w' h' hq
      simpa using this
end Go.Proofs.Ytanimmdlgmkmkaa.Av


/- Probes: what is asked, the parts, a new probe. -/
namespace Go.Proofs.Ytanimmdlgmkmkaa.Av
open Go
set_option linter.unusedSimpArgs false
set_option linter.unusedVariables false
set_option maxRecDepth 100000
set_option maxHeartbeats 4000000
set_option pp.maxSteps 600

def askedB (n m : Nw) (q : Qy) : Bool := rightQ n q && (!decide (q.kind = 5) || decide (n.t = m.t))
theorem asked_calls (n m : Nw) (f g : Fl) (q : Qy) (hn : NwOK n) (hm : NwOK m) : PCalls Try.prog 56 [nwAV n f, nwAV m g, qyAV q] (.raw (.bool (askedB n m q))) := by
  have hr := rightQ_calls n f q
  have hs := topoSame_calls n.t m.t f g (by have := hn.ports; omega) (by have := hn.links; omega) (by have := hm.ports; omega) (by have := hm.links; omega)
  refine pbody Try.func56 rfl (N := 22) rfl rfl (by simp) (by simp [noIds]) fun σ => ?_
  repeat (refine awp_seq ?_)
  refine awp_reg ?_
  simp [-cellOK, nw_cells, qy_cells]
  generalize hA0 : put 22 _ _ _ = A0
  have d3 : A0 3 = .rp ⟨3, σ.nx 3, 3⟩ 0 0 := by rw [← hA0]; simp [new_nx']
  have d4 : A0 4 = .rp ⟨4, σ.nx 4, 3⟩ 0 0 := by rw [← hA0]; simp [new_nx']
  have d5 : A0 5 = .rp ⟨5, σ.nx 5, 7⟩ 0 0 := by rw [← hA0]; simp [new_nx']
  clear hA0
  refine awp_freeze ⟨3, σ.nx 3, 3⟩ ?_
  refine awp_freeze ⟨4, σ.nx 4, 3⟩ ?_
  refine awp_freeze ⟨5, σ.nx 5, 7⟩ ?_
  generalize hτ : St.del _ _ = τ
  generalize hA : (fun t => giveUp _ _ _) = A
  have a3 : A 3 = .pp (nwAV n f).cells 0 := by rw [← hA, ← hτ]; simp [giveUp, St.new, St.del, nw_cells, d3]
  have a4 : A 4 = .pp (nwAV m g).cells 0 := by rw [← hA, ← hτ]; simp [giveUp, St.new, St.del, nw_cells, d4]
  have a5 : A 5 = .pp (qyAV q).cells 0 := by rw [← hA, ← hτ]; simp [giveUp, St.new, St.del, nw_cells, qy_cells, d5]
  have hE : Ext σ τ := by
    rw [← hτ]
    refine ⟨fun i o h => ?_, fun s => ?_⟩
    · have q1 : i ≠ ⟨3, σ.nx 3, 3⟩ := fun e => by rw [e, fresh_none] at h; cases h
      have q2 : i ≠ ⟨4, σ.nx 4, 3⟩ := fun e => by rw [e, fresh_none] at h; cases h
      have q3 : i ≠ ⟨5, σ.nx 5, 7⟩ := fun e => by rw [e, fresh_none] at h; cases h
      simp [St.del, St.new, q1, q2, q3, h]
    · simp only [St.del, St.new]
      repeat' split
      all_goals omega
  clear hτ hA
  have htf : ∀ (N : Nw) (F : Fl), AV.agg [intsAV N.t.ports F.p, linksAV N.t.links F.l] = tpAV N.t F := fun _ _ => rfl
  unfold askedB
  cases hrb : rightQ n q with
  | false =>
    rw [hrb] at hr
    (try ((first | with_reducible refine dops_go ?_ | with_reducible refine OKv_go ?_ | with_reducible refine OKr_go ?_); simp [-cellOK, a3, a4, a5, nw_cells, nw_fold, qy_cells, qy_fold])); repeat' (first | refine awp_seq ?_ | refine awp_block ?_ | (refine awp_skip ?_; try simp) | (refine awp_exit ?_; try simp) | (refine awp_ret ?_; try simp) | (refine retP_same (by simp) ?_; simp) | (refine retP_no (by simp) (by simp [noIds]) (by repeat (first | assumption | exact Ext.refl _ | refine ext_new' ?_ | refine Ext.setF ?_ (by first | assumption | (simp [new_nx', St.set, fresh_none]; done) | exact ext_fresh (by assumption)))) ?_; simp [-cellOK, a3, a4, a5, nw_cells, nw_fold, qy_cells, qy_fold, new_m, set_m, new_nx']) | ((first | refine awp_reg ?_ | refine awp_drawT (fun _ => false) mixed (by decide +kernel) ?_ | refine awp_drawT isCallO mixed (by decide +kernel) ?_ | refine PCalls.use (hr) ?_ | refine Or.inl ⟨_, Or.inl (hr), ?_⟩); simp [-cellOK, a3, a4, a5, nw_cells, nw_fold, qy_cells, qy_fold]) | (refine guarded_split ?_ ?_ <;> (intro hg; simp only [hg]; simp [-cellOK, a3, a4, a5, nw_cells, nw_fold, qy_cells, qy_fold])) | (apply awp_cond_t; focus (simp [-cellOK, a3, a4, a5, nw_cells, nw_fold, qy_cells, qy_fold]; done)) | (apply awp_cond_f; focus (simp [-cellOK, a3, a4, a5, nw_cells, nw_fold, qy_cells, qy_fold]; done)) | (refine awp_cond ?_; simp [-cellOK, a3, a4, a5, nw_cells, nw_fold, qy_cells, qy_fold]; refine ⟨?_, ?_⟩ <;> intro hc) | fail)
  | true =>
    rw [hrb] at hr
    by_cases k5 : q.kind = 5
    · have k5' := eq_true k5
      (try ((first | with_reducible refine dops_go ?_ | with_reducible refine OKv_go ?_ | with_reducible refine OKr_go ?_); simp [-cellOK, a3, a4, a5, nw_cells, nw_fold, qy_cells, qy_fold, k5', htf])); repeat' (first | refine awp_seq ?_ | refine awp_block ?_ | (refine awp_skip ?_; try simp) | (refine awp_exit ?_; try simp) | (refine awp_ret ?_; try simp) | (refine retP_same (by simp) ?_; simp) | (refine retP_no (by simp) (by simp [noIds]) (by repeat (first | assumption | exact Ext.refl _ | refine ext_new' ?_ | refine Ext.setF ?_ (by first | assumption | (simp [new_nx', St.set, fresh_none]; done) | exact ext_fresh (by assumption)))) ?_; simp [-cellOK, a3, a4, a5, nw_cells, nw_fold, qy_cells, qy_fold, k5', htf, new_m, set_m, new_nx']) | ((first | refine awp_reg ?_ | refine awp_drawT (fun _ => false) mixed (by decide +kernel) ?_ | refine awp_drawT isCallO mixed (by decide +kernel) ?_ | refine PCalls.use (hr) ?_ | refine Or.inl ⟨_, Or.inl (hr), ?_⟩ | refine PCalls.use (hs) ?_ | refine Or.inl ⟨_, Or.inl (hs), ?_⟩); simp [-cellOK, a3, a4, a5, nw_cells, nw_fold, qy_cells, qy_fold, k5', htf]) | (refine guarded_split ?_ ?_ <;> (intro hg; simp only [hg]; simp [-cellOK, a3, a4, a5, nw_cells, nw_fold, qy_cells, qy_fold, k5', htf])) | (apply awp_cond_t; focus (simp [-cellOK, a3, a4, a5, nw_cells, nw_fold, qy_cells, qy_fold, k5', htf]; done)) | (apply awp_cond_f; focus (simp [-cellOK, a3, a4, a5, nw_cells, nw_fold, qy_cells, qy_fold, k5', htf]; done)) | (refine awp_cond ?_; simp [-cellOK, a3, a4, a5, nw_cells, nw_fold, qy_cells, qy_fold, k5', htf]; refine ⟨?_, ?_⟩ <;> intro hc) | fail)
    · have k5' := eq_false k5
      (try ((first | with_reducible refine dops_go ?_ | with_reducible refine OKv_go ?_ | with_reducible refine OKr_go ?_); simp [-cellOK, a3, a4, a5, nw_cells, nw_fold, qy_cells, qy_fold, k5', htf])); repeat' (first | refine awp_seq ?_ | refine awp_block ?_ | (refine awp_skip ?_; try simp) | (refine awp_exit ?_; try simp) | (refine awp_ret ?_; try simp) | (refine retP_same (by simp) ?_; simp) | (refine retP_no (by simp) (by simp [noIds]) (by repeat (first | assumption | exact Ext.refl _ | refine ext_new' ?_ | refine Ext.setF ?_ (by first | assumption | (simp [new_nx', St.set, fresh_none]; done) | exact ext_fresh (by assumption)))) ?_; simp [-cellOK, a3, a4, a5, nw_cells, nw_fold, qy_cells, qy_fold, k5', htf, new_m, set_m, new_nx']) | ((first | refine awp_reg ?_ | refine awp_drawT (fun _ => false) mixed (by decide +kernel) ?_ | refine awp_drawT isCallO mixed (by decide +kernel) ?_ | refine PCalls.use (hr) ?_ | refine Or.inl ⟨_, Or.inl (hr), ?_⟩ | refine PCalls.use (hs) ?_ | refine Or.inl ⟨_, Or.inl (hs), ?_⟩); simp [-cellOK, a3, a4, a5, nw_cells, nw_fold, qy_cells, qy_fold, k5', htf]) | (refine guarded_split ?_ ?_ <;> (intro hg; simp only [hg]; simp [-cellOK, a3, a4, a5, nw_cells, nw_fold, qy_cells, qy_fold, k5', htf])) | (apply awp_cond_t; focus (simp [-cellOK, a3, a4, a5, nw_cells, nw_fold, qy_cells, qy_fold, k5', htf]; done)) | (apply awp_cond_f; focus (simp [-cellOK, a3, a4, a5, nw_cells, nw_fold, qy_cells, qy_fold, k5', htf]; done)) | (refine awp_cond ?_; simp [-cellOK, a3, a4, a5, nw_cells, nw_fold, qy_cells, qy_fold, k5', htf]; refine ⟨?_, ?_⟩ <;> intro hc) | fail)

theorem pcut_calls (n m : Nw) (f g : Fl) (q : Qy) (hn : NwOK n) (hm : NwOK m) (hq : RgOK q.r) :
    PCalls Try.prog 57 [nwAV n f, nwAV m g, qyAV q] (rgsAV (cutP [n, if q.kind = 5 then m else n] q.r) false) := by
  refine pbody Try.func57 rfl (N := 23) rfl rfl (by simp) (by simp [noIds]) fun σ => ?_
  repeat (refine awp_seq ?_)
  refine awp_reg ?_
  simp [-cellOK, nw_cells, qy_cells]
  generalize hA0 : put 23 _ _ _ = A0
  have d3 : A0 3 = .rp ⟨3, σ.nx 3, 3⟩ 0 0 := by rw [← hA0]; simp [new_nx']
  have d4 : A0 4 = .rp ⟨4, σ.nx 4, 3⟩ 0 0 := by rw [← hA0]; simp [new_nx']
  have d5 : A0 5 = .rp ⟨5, σ.nx 5, 7⟩ 0 0 := by rw [← hA0]; simp [new_nx']
  have d6 : A0 6 = .sl 0 [] true := by rw [← hA0]; simp [new_nx']
  clear hA0
  refine awp_freeze ⟨3, σ.nx 3, 3⟩ ?_
  refine awp_freeze ⟨5, σ.nx 5, 7⟩ ?_
  generalize hτ : St.del _ _ = τ
  generalize hA : (fun t => giveUp _ _ _) = A
  have a3 : A 3 = .pp (nwAV n f).cells 0 := by rw [← hA, ← hτ]; simp [giveUp, St.new, St.del, nw_cells, d3]
  have a4 : A 4 = .rp ⟨4, σ.nx 4, 3⟩ 0 0 := by rw [← hA, ← hτ]; simp [giveUp, St.new, St.del, nw_cells, d4]
  have a5 : A 5 = .pp (qyAV q).cells 0 := by rw [← hA, ← hτ]; simp [giveUp, St.new, St.del, nw_cells, qy_cells, d5]
  have m4 : τ.m ⟨4, σ.nx 4, 3⟩ = some (.buf [nwAV m g]) := by rw [← hτ]; simp [St.new, St.del]
  have hE : Ext σ τ := by
    rw [← hτ]
    refine ⟨fun i o h => ?_, fun s => ?_⟩
    · have q1 : i ≠ ⟨3, σ.nx 3, 3⟩ := fun e => by rw [e, fresh_none] at h; cases h
      have q2 : i ≠ ⟨4, σ.nx 4, 3⟩ := fun e => by rw [e, fresh_none] at h; cases h
      have q3 : i ≠ ⟨5, σ.nx 5, 7⟩ := fun e => by rw [e, fresh_none] at h; cases h
      simp [St.del, St.new, q1, q2, q3, h]
    · simp only [St.del, St.new]
      repeat' split
      all_goals omega
  clear hτ hA
  have f4 : σ.m ⟨4, σ.nx 4, 3⟩ = none := fresh_none _ _ _
  have hrgf : AV.agg [.raw (.int .u32 q.r.lo), .raw (.int .u32 q.r.hi)] = rgAV q.r := rfl
  by_cases k5 : q.kind = 5
  · have hcut := cut_calls [(n, f), (m, g)] false q.r hq (by simp [hn, hm]) (by simp)
    simp only [List.map_cons, List.map_nil] at hcut
    rw [if_pos k5]
    have k5' := eq_true k5
    (try ((first | with_reducible refine dops_go ?_ | with_reducible refine OKv_go ?_ | with_reducible refine OKr_go ?_); simp [-cellOK, a3, a4, a5, nw_cells, nw_fold, qy_cells, qy_fold, m4, k5'])); repeat' (first | refine awp_seq ?_ | refine awp_block ?_ | (refine awp_skip ?_; try simp) | (refine awp_exit ?_; try simp) | (refine awp_ret ?_; try simp) | ((first | refine awp_reg ?_ | refine awp_drawT (fun _ => false) mixed (by decide +kernel) ?_ | refine awp_drawT isCallO mixed (by decide +kernel) ?_); simp [-cellOK, a3, a4, a5, nw_cells, nw_fold, qy_cells, qy_fold, m4, k5']) | (refine guarded_split ?_ ?_ <;> (intro hg; simp only [hg]; simp [-cellOK, a3, a4, a5, nw_cells, nw_fold, qy_cells, qy_fold, m4, k5'])) | (apply awp_cond_t; focus (simp [-cellOK, a3, a4, a5, nw_cells, nw_fold, qy_cells, qy_fold, m4, k5']; done)) | (apply awp_cond_f; focus (simp [-cellOK, a3, a4, a5, nw_cells, nw_fold, qy_cells, qy_fold, m4, k5']; done)) | (refine awp_cond ?_; simp [-cellOK, a3, a4, a5, nw_cells, nw_fold, qy_cells, qy_fold, m4, k5']; refine ⟨?_, ?_⟩ <;> intro hc) | fail)
    refine hcut.useFz (σ0 := σ) ⟨16, τ.nx 16, 3⟩ (ext_fresh hE) (by repeat (first | assumption | exact Ext.refl _ | refine ext_new' ?_ | refine Ext.setF ?_ (by first | assumption | (simp [new_nx', St.set, fresh_none]; done) | exact ext_fresh (by assumption)))) (by simp [giveUp, new_m, netsAV, hrgf]; rfl) ?_
    intro τ2 hE2 hk2 _
    (try ((first | with_reducible refine dops_go ?_ | with_reducible refine OKv_go ?_ | with_reducible refine OKr_go ?_); simp [-cellOK, a3, a4, a5, rgsAV])); repeat' (first | refine awp_seq ?_ | refine awp_block ?_ | (refine awp_skip ?_; try simp) | (refine awp_exit ?_; try simp) | (refine awp_ret ?_; try simp) | (refine retP_same (by simp) ?_; simp) | (refine retP_no (by simp) (by simp [noIds]) (by repeat (first | assumption | exact Ext.refl _ | refine ext_new' ?_ | refine Ext.setF ?_ (by first | assumption | (simp [new_nx', St.set, fresh_none]; done) | exact ext_fresh (by assumption)))) ?_; simp [-cellOK, a3, a4, a5, rgsAV, new_m, set_m, new_nx']) | ((first | refine awp_reg ?_ | refine awp_drawT (fun _ => false) mixed (by decide +kernel) ?_ | refine awp_drawT isCallO mixed (by decide +kernel) ?_); simp [-cellOK, a3, a4, a5, rgsAV]) | (refine guarded_split ?_ ?_ <;> (intro hg; simp only [hg]; simp [-cellOK, a3, a4, a5, rgsAV])) | (apply awp_cond_t; focus (simp [-cellOK, a3, a4, a5, rgsAV]; done)) | (apply awp_cond_f; focus (simp [-cellOK, a3, a4, a5, rgsAV]; done)) | (refine awp_cond ?_; simp [-cellOK, a3, a4, a5, rgsAV]; refine ⟨?_, ?_⟩ <;> intro hc) | fail)
  · have hcut := cut_calls [(n, f), (n, f)] false q.r hq (by simp [hn]) (by simp)
    simp only [List.map_cons, List.map_nil] at hcut
    rw [if_neg k5]
    have k5' := eq_false k5
    have hnp : setPart (nwAV m g) 0 [intsAV n.t.ports f.p, linksAV n.t.links f.l, rulesAV n.rules f.r] = nwAV n f := rfl
    (try ((first | with_reducible refine dops_go ?_ | with_reducible refine OKv_go ?_ | with_reducible refine OKr_go ?_); simp [-cellOK, a3, a4, a5, nw_cells, nw_fold, qy_cells, qy_fold, m4, k5', hnp, set_m])); repeat' (first | refine awp_seq ?_ | refine awp_block ?_ | (refine awp_skip ?_; try simp) | (refine awp_exit ?_; try simp) | (refine awp_ret ?_; try simp) | ((first | refine awp_reg ?_ | refine awp_drawT (fun _ => false) mixed (by decide +kernel) ?_ | refine awp_drawT isCallO mixed (by decide +kernel) ?_); simp [-cellOK, a3, a4, a5, nw_cells, nw_fold, qy_cells, qy_fold, m4, k5', hnp, set_m]) | (refine guarded_split ?_ ?_ <;> (intro hg; simp only [hg]; simp [-cellOK, a3, a4, a5, nw_cells, nw_fold, qy_cells, qy_fold, m4, k5', hnp, set_m])) | (apply awp_cond_t; focus (simp [-cellOK, a3, a4, a5, nw_cells, nw_fold, qy_cells, qy_fold, m4, k5', hnp, set_m]; done)) | (apply awp_cond_f; focus (simp [-cellOK, a3, a4, a5, nw_cells, nw_fold, qy_cells, qy_fold, m4, k5', hnp, set_m]; done)) | (refine awp_cond ?_; simp [-cellOK, a3, a4, a5, nw_cells, nw_fold, qy_cells, qy_fold, m4, k5', hnp, set_m]; refine ⟨?_, ?_⟩ <;> intro hc) | fail)
    refine hcut.useFz (σ0 := σ) ⟨16, τ.nx 16, 3⟩ (ext_fresh hE) (by repeat (first | assumption | exact Ext.refl _ | refine ext_new' ?_ | refine Ext.setF ?_ (by first | assumption | (simp [new_nx', St.set, fresh_none]; done) | exact ext_fresh (by assumption)))) (by simp [giveUp, new_m, set_m, m4, netsAV, hrgf]; rfl) ?_
    intro τ2 hE2 hk2 _
    (try ((first | with_reducible refine dops_go ?_ | with_reducible refine OKv_go ?_ | with_reducible refine OKr_go ?_); simp [-cellOK, a3, a4, a5, rgsAV])); repeat' (first | refine awp_seq ?_ | refine awp_block ?_ | (refine awp_skip ?_; try simp) | (refine awp_exit ?_; try simp) | (refine awp_ret ?_; try simp) | (refine retP_same (by simp) ?_; simp) | (refine retP_no (by simp) (by simp [noIds]) (by repeat (first | assumption | exact Ext.refl _ | refine ext_new' ?_ | refine Ext.setF ?_ (by first | assumption | (simp [new_nx', St.set, fresh_none]; done) | exact ext_fresh (by assumption)))) ?_; simp [-cellOK, a3, a4, a5, rgsAV, new_m, set_m, new_nx']) | ((first | refine awp_reg ?_ | refine awp_drawT (fun _ => false) mixed (by decide +kernel) ?_ | refine awp_drawT isCallO mixed (by decide +kernel) ?_); simp [-cellOK, a3, a4, a5, rgsAV]) | (refine guarded_split ?_ ?_ <;> (intro hg; simp only [hg]; simp [-cellOK, a3, a4, a5, rgsAV])) | (apply awp_cond_t; focus (simp [-cellOK, a3, a4, a5, rgsAV]; done)) | (apply awp_cond_f; focus (simp [-cellOK, a3, a4, a5, rgsAV]; done)) | (refine awp_cond ?_; simp [-cellOK, a3, a4, a5, rgsAV]; refine ⟨?_, ?_⟩ <;> intro hc) | fail)
end Go.Proofs.Ytanimmdlgmkmkaa.Av


/- Probes: a new one, and the bound. -/
namespace Go.Proofs.Ytanimmdlgmkmkaa.Av
open Go
set_option linter.unusedSimpArgs false
set_option linter.unusedVariables false
set_option maxRecDepth 100000
set_option maxHeartbeats 4000000
set_option pp.maxSteps 600

theorem Ex.toExt {ip : Id} {σ τ : St} (h : Ex ip σ τ) (n : σ.m ip = none) : Ext σ τ := ⟨fun i o e => h.1 i o (fun q => by rw [q, n] at e; cases e) e, h.2⟩
theorem rgs_cells (l : List Rg) (f : Bool) : (rgsAV l f).cells = [rgsAV l f] := rfl
/-- The parts of a query. -/
def partsQ (n m : Nw) (q : Qy) : List Rg := cutP [n, if q.kind = 5 then m else n] q.r
def pb0 (n m : Nw) (f g : Fl) (q : Qy) : PB := ⟨n, m, f, g, q, sourcesQ n q, partsQ n m q, partsQ n m q⟩
theorem pnew_calls (n m : Nw) (f g : Fl) (q : Qy) (hn : NwOK n) (hm : NwOK m) (hq : RgOK q.r) {σ : St} {K : AV → St → Prop}
    (hK0 : askedB n m q = false → ∀ τ, Ext σ τ → K (.tup [.raw (.pointer none), .raw (.int .i64 121)]) τ)
    (hS : askedB n m q = true → ∃ s ss, sourcesQ n q = s :: ss) (hP : askedB n m q = true → ∃ r rs, partsQ n m q = r :: rs)
    (hK1 : ∀ s ss, askedB n m q = true → sourcesQ n q = s :: ss → ∀ τ ip, ip.sz = 34 → σ.m ip = none → PbR ip (pb0 n m f g q) (.one [] s) nilAV nilAV τ → Ext σ τ → K (.tup [.rp ip 0 0, .raw (.int .i64 0)]) τ) :
    ACalls Try.prog 31 [nwAV n f, nwAV m g, qyAV q] σ K := by
  have ha := asked_calls n m f g q hn hm
  have hso := sources_calls n f q hn.ports
  have hcu : PCalls Try.prog 57 [nwAV n f, nwAV m g, qyAV q] (rgsAV (partsQ n m q) false) := pcut_calls n m f g q hn hm hq
  refine abody Try.func31 rfl (N := 36) rfl rfl (by simp) ?_
  repeat (refine awp_seq ?_)
  refine awp_reg ?_
  simp [-cellOK, nw_cells, qy_cells]
  generalize hA0 : put 36 _ _ _ = A0
  have d3 : A0 3 = .rp ⟨3, σ.nx 3, 3⟩ 0 0 := by rw [← hA0]; simp [new_nx']
  have d4 : A0 4 = .rp ⟨4, σ.nx 4, 3⟩ 0 0 := by rw [← hA0]; simp [new_nx']
  have d5 : A0 5 = .rp ⟨5, σ.nx 5, 7⟩ 0 0 := by rw [← hA0]; simp [new_nx']
  clear hA0
  refine awp_freeze ⟨3, σ.nx 3, 3⟩ ?_
  refine awp_freeze ⟨4, σ.nx 4, 3⟩ ?_
  refine awp_freeze ⟨5, σ.nx 5, 7⟩ ?_
  generalize hτ : St.del _ _ = τ
  generalize hA : (fun t => giveUp _ _ _) = A
  have a3 : A 3 = .pp (nwAV n f).cells 0 := by rw [← hA, ← hτ]; simp [giveUp, St.new, St.del, nw_cells, d3]
  have a4 : A 4 = .pp (nwAV m g).cells 0 := by rw [← hA, ← hτ]; simp [giveUp, St.new, St.del, nw_cells, d4]
  have a5 : A 5 = .pp (qyAV q).cells 0 := by rw [← hA, ← hτ]; simp [giveUp, St.new, St.del, nw_cells, qy_cells, d5]
  have hE : Ext σ τ := by
    rw [← hτ]
    refine ⟨fun i o h => ?_, fun s => ?_⟩
    · have q1 : i ≠ ⟨3, σ.nx 3, 3⟩ := fun e => by rw [e, fresh_none] at h; cases h
      have q2 : i ≠ ⟨4, σ.nx 4, 3⟩ := fun e => by rw [e, fresh_none] at h; cases h
      have q3 : i ≠ ⟨5, σ.nx 5, 7⟩ := fun e => by rw [e, fresh_none] at h; cases h
      simp [St.del, St.new, q1, q2, q3, h]
    · simp only [St.del, St.new]
      repeat' split
      all_goals omega
  clear hτ hA
  cases hab : askedB n m q with
  | false =>
    rw [hab] at ha
    (try ((first | with_reducible refine dops_go ?_ | with_reducible refine OKv_go ?_ | with_reducible refine OKr_go ?_); simp [-cellOK, a3, a4, a5, nw_cells, nw_fold, qy_cells, qy_fold])); repeat' (first | refine awp_seq ?_ | refine awp_block ?_ | (refine awp_skip ?_; try simp) | (refine awp_exit ?_; try simp) | (refine awp_ret ?_; try simp) | ((first | refine awp_reg ?_ | refine awp_drawT (fun _ => false) mixed (by decide +kernel) ?_ | refine awp_drawT isCallO mixed (by decide +kernel) ?_ | refine PCalls.use (ha) ?_ | refine Or.inl ⟨_, Or.inl (ha), ?_⟩); simp [-cellOK, a3, a4, a5, nw_cells, nw_fold, qy_cells, qy_fold]) | (refine guarded_split ?_ ?_ <;> (intro hg; simp only [hg]; simp [-cellOK, a3, a4, a5, nw_cells, nw_fold, qy_cells, qy_fold])) | (apply awp_cond_t; focus (simp [-cellOK, a3, a4, a5, nw_cells, nw_fold, qy_cells, qy_fold]; done)) | (apply awp_cond_f; focus (simp [-cellOK, a3, a4, a5, nw_cells, nw_fold, qy_cells, qy_fold]; done)) | (refine awp_cond ?_; simp [-cellOK, a3, a4, a5, nw_cells, nw_fold, qy_cells, qy_fold]; refine ⟨?_, ?_⟩ <;> intro hc) | fail)
    exact retK_of (.inr rfl) (by simp) (hK0 hab _ hE)
  | true =>
    rw [hab] at ha
    obtain ⟨s, ss, hs⟩ := hS hab
    obtain ⟨r, rs, hp⟩ := hP hab
    have ko : ∀ l : List Rg, cellOK (rgsAV l false) = true := fun _ => rfl
    have ki : ∀ l : List Int, cellOK (intsAV l false) = true := fun _ => rfl
    (try ((first | with_reducible refine dops_go ?_ | with_reducible refine OKv_go ?_ | with_reducible refine OKr_go ?_); simp [-cellOK, a3, a4, a5, nw_cells, nw_fold, qy_cells, qy_fold, ints_cells, rgs_cells, ko, ki, set_m, new_m])); repeat' (first | refine awp_seq ?_ | refine awp_block ?_ | (refine awp_skip ?_; try simp) | (refine awp_exit ?_; try simp) | (refine awp_ret ?_; try simp) | ((first | refine awp_reg ?_ | refine awp_drawT (fun _ => false) mixed (by decide +kernel) ?_ | refine awp_drawT isCallO mixed (by decide +kernel) ?_ | refine PCalls.use (ha) ?_ | refine Or.inl ⟨_, Or.inl (ha), ?_⟩ | refine PCalls.use (hso) ?_ | refine Or.inl ⟨_, Or.inl (hso), ?_⟩ | refine PCalls.use (hcu) ?_ | refine Or.inl ⟨_, Or.inl (hcu), ?_⟩); simp [-cellOK, a3, a4, a5, nw_cells, nw_fold, qy_cells, qy_fold, ints_cells, rgs_cells, ko, ki, set_m, new_m]) | (refine guarded_split ?_ ?_ <;> (intro hg; simp only [hg]; simp [-cellOK, a3, a4, a5, nw_cells, nw_fold, qy_cells, qy_fold, ints_cells, rgs_cells, ko, ki, set_m, new_m])) | (apply awp_cond_t; focus (simp [-cellOK, a3, a4, a5, nw_cells, nw_fold, qy_cells, qy_fold, ints_cells, rgs_cells, ko, ki, set_m, new_m]; done)) | (apply awp_cond_f; focus (simp [-cellOK, a3, a4, a5, nw_cells, nw_fold, qy_cells, qy_fold, ints_cells, rgs_cells, ko, ki, set_m, new_m]; done)) | (refine awp_cond ?_; simp [-cellOK, a3, a4, a5, nw_cells, nw_fold, qy_cells, qy_fold, ints_cells, rgs_cells, ko, ki, set_m, new_m]; refine ⟨?_, ?_⟩ <;> intro hc) | fail)
    have f25 : τ.m ⟨25, τ.nx 25, 34⟩ = none := fresh_none _ _ _
    generalize hσ1 : St.set _ _ _ = σ1
    have m1 : σ1.m ⟨25, τ.nx 25, 34⟩ = some (pbOb (pb0 n m f g q) 0 nilAV z0 nilAV z0 (.raw .nilFunc) false vc0) := by rw [← hσ1]; simp [set_m, new_m, pbOb, pbRow, pb0, nilAV, z0, vc0]
    have hX1 : Ex ⟨25, τ.nx 25, 34⟩ τ σ1 := by rw [← hσ1]; exact ((Ex.refl _ _).new _ _ _).set _
    clear hσ1
    refine begin_calls rfl m1 (s := s) (ss := ss) hs fun τ2 mτ hX2 => ?_
    (try ((first | with_reducible refine dops_go ?_ | with_reducible refine OKv_go ?_ | with_reducible refine OKr_go ?_); simp [-cellOK])); repeat' (first | refine awp_seq ?_ | refine awp_block ?_ | (refine awp_skip ?_; try simp) | (refine awp_exit ?_; try simp) | (refine awp_ret ?_; try simp) | ((first | refine awp_reg ?_ | refine awp_drawT (fun _ => false) mixed (by decide +kernel) ?_ | refine awp_drawT isCallO mixed (by decide +kernel) ?_); simp [-cellOK]) | (refine guarded_split ?_ ?_ <;> (intro hg; simp only [hg]; simp [-cellOK])) | (apply awp_cond_t; focus (simp [-cellOK]; done)) | (apply awp_cond_f; focus (simp [-cellOK]; done)) | (refine awp_cond ?_; simp [-cellOK]; refine ⟨?_, ?_⟩ <;> intro hc) | fail)
    exact retK_of (x := .tup [.rp ⟨25, τ.nx 25, 34⟩ 0 0, .raw (.int .i64 0)]) (.inr rfl) (by simp) (hK1 s ss hab hs τ2 _ rfl (ext_fresh hE) ⟨rfl, nil_own _, s, ss, r, rs, 0, hs, hp, Way.start _ _ _, mτ⟩ (hE.trans ((hX1.trans hX2).toExt f25)))
/-- The bound, as it is reckoned. -/
def boundQ (n m : Nw) (q : Qy) : Int := if askedB n m q = true then (if q.kind = 5 then (sourcesQ n q).length * (partsQ n m q).length * (n.t.ports.length + 1) * 2 else (sourcesQ n q).length * (partsQ n m q).length * (n.t.ports.length + 1)) else 0
end Go.Proofs.Ytanimmdlgmkmkaa.Av


namespace Go.Proofs.Ytanimmdlgmkmkaa.Av.Zn
open Go
set_option linter.unusedSimpArgs false
set_option linter.unusedVariables false
set_option maxRecDepth 100000

attribute [ext] Rg
def zAV (z : List Rg) (full : Bool) : AV := .sl 2 (z.map rgAV) full

end Go.Proofs.Ytanimmdlgmkmkaa.Av.Zn


/- Zones: the functions that only look. -/
namespace Go.Proofs.Ytanimmdlgmkmkaa.Av.Zn
open Go
set_option linter.unusedSimpArgs false
set_option linter.unusedVariables false
set_option maxRecDepth 100000
set_option pp.maxSteps 300

/-- The bounds of a range's ends. -/
def _root_.Go.Proofs.Ytanimmdlgmkmkaa.Av.Rg.In (r : Rg) : Prop := 0 ≤ r.lo ∧ r.lo < 4294967296 ∧ 0 ≤ r.hi ∧ r.hi < 4294967296
def InZ (z : List Rg) : Prop := ∀ r ∈ z, r.In
def okAt (z : List Rg) (i : Nat) : Bool :=
  match z[i]? with
  | some r => decide (r.lo ≤ r.hi) && (i == 0 || match z[i - 1]? with | some p => decide (p.hi + 1 < r.lo) | none => true)
  | none => true
def rightB (z : List Rg) : Bool := (List.range z.length).all (okAt z)
end Go.Proofs.Ytanimmdlgmkmkaa.Av.Zn


/- Zones: more functions that only look. -/
namespace Go.Proofs.Ytanimmdlgmkmkaa.Av.Zn
open Go
set_option linter.unusedSimpArgs false
set_option linter.unusedVariables false
set_option maxRecDepth 100000
set_option pp.maxSteps 300

def lastHi (z : List Rg) (i : Nat) : Int := match i with | 0 => -2 | k + 1 => match z[k]? with | some r => r.hi | none => -2

def leastA (z : List Rg) : AV := match z with | [] => .tup [.raw (.int .u32 0), .raw (.bool false)] | r :: _ => .tup [.raw (.int .u32 r.lo), .raw (.bool true)]
def hasB (z : List Rg) (a : Int) : Bool := z.any fun r => decide (r.lo ≤ a) && decide (a ≤ r.hi)
def countZ (z : List Rg) : Int := (z.map fun r => r.hi - r.lo + 1).sum
end Go.Proofs.Ytanimmdlgmkmkaa.Av.Zn


/- Zones: searching. -/
namespace Go.Proofs.Ytanimmdlgmkmkaa.Av.Zn
open Go
set_option linter.unusedSimpArgs false
set_option linter.unusedVariables false
set_option maxRecDepth 100000
set_option pp.maxSteps 300

def cmpI (a b : Int) : Int := if a < b then -1 else if b < a then 1 else 0
/-- Where what is searched begins. -/
def firstGe (c : Rg → Int) (z : List Rg) : Nat := z.findIdx fun r => decide (0 ≤ c r)
end Go.Proofs.Ytanimmdlgmkmkaa.Av.Zn


/- Iterators: collecting what one yields. -/
namespace Go.Proofs.Ytanimmdlgmkmkaa.Av.Zn
open Go
set_option linter.unusedSimpArgs false
set_option linter.unusedVariables false
set_option maxRecDepth 100000
set_option pp.maxSteps 300

/-- All objects but i are as they were. -/
structure But (i : Id) (σ τ : St) : Prop where
  m : ∀ l o, l ≠ i → σ.m l = some o → τ.m l = some o
  nx : ∀ s, σ.nx s ≤ τ.nx s

end Go.Proofs.Ytanimmdlgmkmkaa.Av.Zn


namespace Go.Proofs.Ytanimmdlgmkmkaa.Av.Zn
open Go
set_option linter.unusedSimpArgs false
set_option linter.unusedVariables false
set_option maxRecDepth 100000

end Go.Proofs.Ytanimmdlgmkmkaa.Av.Zn


/- Zones in plain Lean: a right zone is known by what it has; joining cuts; merging; both; not. -/
namespace Go.Proofs.Ytanimmdlgmkmkaa.Av.Zn
set_option linter.unusedSimpArgs false
set_option linter.unusedVariables false

def MZ (z : List Rg) (a : Int) : Prop := ∃ r ∈ z, r.lo ≤ a ∧ a ≤ r.hi
theorem mz_nil {a : Int} : ¬ MZ [] a := fun ⟨_, h, _⟩ => by cases h
theorem mz_cons {r : Rg} {z : List Rg} {a : Int} : MZ (r :: z) a ↔ (r.lo ≤ a ∧ a ≤ r.hi) ∨ MZ z a := by
  constructor
  · rintro ⟨s, h, k⟩
    rcases List.mem_cons.1 h with rfl | h
    · exact .inl k
    · exact .inr ⟨s, h, k⟩
  · rintro (h | ⟨s, h, k⟩)
    · exact ⟨r, by simp, h⟩
    · exact ⟨s, by simp [h], k⟩
/-- Right, beginning above b + 1. -/
def RZ : Int → List Rg → Prop
  | _, [] => True
  | b, r :: z => b < r.lo ∧ r.lo ≤ r.hi ∧ RZ (r.hi + 1) z
theorem RZ.gt : ∀ {z : List Rg} {b a : Int}, RZ b z → MZ z a → b < a
  | [], _, _, _, h => absurd h mz_nil
  | r :: z, b, a, k, h => by
    rcases mz_cons.1 h with h | h
    · have := k.1; omega
    · have := RZ.gt k.2.2 h; have := k.1; have := k.2.1; omega
theorem RZ.ext : ∀ {x y : List Rg} {b c : Int}, RZ b x → RZ c y → (∀ a, MZ x a ↔ MZ y a) → x = y
  | [], [], _, _, _, _, _ => rfl
  | [], s :: y, _, _, _, k, h => absurd ((h s.lo).2 (mz_cons.2 (.inl ⟨Int.le_refl _, k.2.1⟩))) mz_nil
  | r :: x, [], _, _, k, _, h => absurd ((h r.lo).1 (mz_cons.2 (.inl ⟨Int.le_refl _, k.2.1⟩))) mz_nil
  | r :: x, s :: y, b, c, k, l, h => by
    obtain ⟨k1, k2, k3⟩ := k
    obtain ⟨l1, l2, l3⟩ := l
    have gx : ∀ {a}, MZ x a → r.hi + 1 < a := fun h => RZ.gt k3 h
    have gy : ∀ {a}, MZ y a → s.hi + 1 < a := fun h => RZ.gt l3 h
    have hlo : r.lo = s.lo := by
      have h1 := (h r.lo).1 (mz_cons.2 (.inl ⟨Int.le_refl _, k2⟩))
      have h2 := (h s.lo).2 (mz_cons.2 (.inl ⟨Int.le_refl _, l2⟩))
      rcases mz_cons.1 h1 with h1 | h1 <;> rcases mz_cons.1 h2 with h2 | h2
      · omega
      · have := gx h2; omega
      · have := gy h1; omega
      · have := gx h2; have := gy h1; omega
    have hhi : r.hi = s.hi := by
      rcases Int.lt_trichotomy r.hi s.hi with hl | hl | hl
      · have h1 := (h (r.hi + 1)).2 (mz_cons.2 (.inl ⟨by omega, by omega⟩))
        rcases mz_cons.1 h1 with h1 | h1
        · omega
        · have := gx h1; omega
      · exact hl
      · have h1 := (h (s.hi + 1)).1 (mz_cons.2 (.inl ⟨by omega, by omega⟩))
        rcases mz_cons.1 h1 with h1 | h1
        · omega
        · have := gy h1; omega
    have he : r = s := Rg.ext hlo hhi
    subst he
    congr 1
    refine RZ.ext k3 l3 fun a => ⟨fun ha => ?_, fun ha => ?_⟩
    · rcases mz_cons.1 ((h a).1 (mz_cons.2 (.inr ha))) with h1 | h1
      · have := gx ha; omega
      · exact h1
    · rcases mz_cons.1 ((h a).2 (mz_cons.2 (.inr ha))) with h1 | h1
      · have := gy ha; omega
      · exact h1

theorem RZ.at : ∀ {z : List Rg} {b : Int}, RZ b z → ∀ i r, z[i]? = some r → b < r.lo ∧ r.lo ≤ r.hi ∧ ∀ s, z[i + 1]? = some s → r.hi + 1 < s.lo
  | [], _, _, _, _, h => by simp at h
  | r :: z, b, k, 0, s, h => by
    simp at h; subst h
    refine ⟨k.1, k.2.1, fun s hs => ?_⟩
    cases z with
    | nil => simp at hs
    | cons t z => simp at hs; subst hs; exact k.2.2.1
  | r :: z, b, k, i + 1, s, h => by
    have := RZ.at k.2.2 i s (by simpa using h)
    refine ⟨by have := k.1; have := k.2.1; omega, this.2.1, fun t ht => this.2.2 t (by simpa using ht)⟩
/-! ### Merging what is sorted -/
def mg : Rg → List Rg → List Rg
  | r, [] => [r]
  | r, x :: l => if x.lo ≤ r.hi + 1 then mg ⟨r.lo, max r.hi x.hi⟩ l else r :: mg x l
def mergeZ : List Rg → List Rg
  | [] => []
  | r :: l => mg r l
/-! ### Both, and not -/
def andZ : List Rg → List Rg → List Rg
  | r :: x, s :: y => (if max r.lo s.lo ≤ min r.hi s.hi then [⟨max r.lo s.lo, min r.hi s.hi⟩] else []) ++ if r.hi < s.hi then andZ x (s :: y) else andZ (r :: x) y
  | _, _ => []
termination_by x y => x.length + y.length
def notZ : Int → List Rg → List Rg
  | b, [] => if b ≤ 4294967295 then [⟨b, 4294967295⟩] else []
  | b, r :: z => (if b < r.lo then [⟨b, r.lo - 1⟩] else []) ++ notZ (r.hi + 1) z
end Go.Proofs.Ytanimmdlgmkmkaa.Av.Zn

