/- The queries' laws: the program walked, and plain laws of what it computes. Part 11 of 14: AvN33, AvN34. -/
import Derived.Test.YtanimmdlgmkmkaaNet10

/- Queries, the plain law: what the three laws without the document's answer say. -/
namespace Go.Proofs.Ytanimmdlgmkmkaa.Av

theorem noDev_iff (n : Nw) (d : Int) : noDev n d = false ↔ 0 ≤ d ∧ d < n.t.ports.length := by
  unfold noDev
  simp only [Bool.or_eq_false_iff, decide_eq_false_iff_not]
  omega
structure RightQ (n : Nw) (q : Qy) : Prop where
  k0 : 0 ≤ q.kind
  k5 : q.kind ≤ 5
  le : q.r.lo ≤ q.r.hi
  a : 0 ≤ q.a ∧ q.a < n.t.ports.length
  b : 0 ≤ q.b ∧ q.b < n.t.ports.length
  w : 0 ≤ q.w ∧ q.w < n.t.ports.length
  one : singleB q = true ∨ (q.a = 0 ∧ q.b = 0)
  way : q.kind = 4 ∨ q.w = 0
  oth : q.kind = 5 ∨ noOther q = true
theorem rightQ_iff (n : Nw) (q : Qy) : rightQ n q = true ↔ RightQ n q := by
  unfold rightQ
  simp only [List.any_cons, List.any_nil, Bool.or_false, Bool.and_eq_true, Bool.not_eq_true', Bool.or_eq_false_iff, noDev_iff, decide_eq_false_iff_not, Bool.or_eq_true, decide_eq_true_eq]
  constructor
  · rintro ⟨⟨h1, h2, h3⟩, ⟨h4, h5, h6⟩, h7, h8, h9⟩
    exact ⟨by omega, by omega, by omega, h4, h5, h6, h7, h8, h9⟩
  · rintro ⟨h1, h2, h3, h4, h5, h6, h7, h8, h9⟩
    exact ⟨⟨by omega, by omega, by omega⟩, ⟨h4, h5, h6⟩, h7, h8, h9⟩
theorem source_ok {n : Nw} {q : Qy} (h : RightQ n q) {d : Int} (hd : d ∈ sourcesQ n q) : 0 ≤ d ∧ d < n.t.ports.length := by
  unfold sourcesQ at hd
  split at hd
  · simp only [List.mem_singleton] at hd; subst hd; exact h.a
  · simp only [List.mem_map, List.mem_range] at hd
    obtain ⟨i, hi, rfl⟩ := hd
    omega
theorem trace_ok {n : Nw} {d : Int} (h : 0 ≤ d ∧ d < n.t.ports.length) (a : Int) : traceR n d a = (traceF n d a, 0) := by
  unfold traceR
  rw [if_neg (by omega)]
theorem breaksQ_u {q : Qy} (h : q.kind ≠ 5) (t u u' : Tk) : breaksQ q t u = breaksQ q t u' := by
  unfold breaksQ
  repeat' split
  all_goals first | rfl | (exfalso; exact h (by assumption))
theorem breaksQ_5 {q : Qy} (h : q.kind = 5) (t u : Tk) : breaksQ q t u = !decide (t = u) := by
  unfold breaksQ
  rw [if_neg (by omega), if_neg (by omega), if_neg (by omega), if_neg (by omega), if_neg (by omega), if_pos h]
/-- What is known of a query that is answered. -/
structure RunOK (n m : Nw) (q : Qy) (v : Vd) (M : Nw) : Prop where
  right : RightQ n q
  top : q.kind = 5 → n.t = m.t
  other : M = if q.kind = 5 then m else n
  res : (v = ⟨true, 0, 0, noTk⟩ ∧ seeks n M q (cutP [n, M] q.r) (sourcesQ n q) = none) ∨ seeks n M q (cutP [n, M] q.r) (sourcesQ n q) = some v
theorem run_ok {n m : Nw} {q : Qy} (h : (runQ n m q).2 = 0) : RunOK n m q (runQ n m q).1 (if q.kind = 5 then m else n) := by
  unfold runQ at *
  split at h
  · cases h
  · rename_i hb
    rw [if_neg hb]
    have h1 : rightQ n q = true := by
      cases hq : rightQ n q with
      | true => rfl
      | false => exact absurd (.inl hq) hb
    refine ⟨(rightQ_iff n q).1 h1, fun k => Classical.byContradiction fun hne => hb (.inr ⟨k, hne⟩), rfl, ?_⟩
    cases hs : seeks n (if q.kind = 5 then m else n) q (cutP [n, if q.kind = 5 then m else n] q.r) (sourcesQ n q) with
    | none => exact .inl ⟨rfl, rfl⟩
    | some v => exact .inr rfl
theorem run_of {n m : Nw} {q : Qy} (h : RightQ n q) (ht : q.kind = 5 → n.t = m.t) : runQ n m q = match seeks n (if q.kind = 5 then m else n) q (cutP [n, if q.kind = 5 then m else n] q.r) (sourcesQ n q) with
    | some v => (v, 0)
    | none => (⟨true, 0, 0, noTk⟩, 0) := by
  have hb : ¬ (rightQ n q = false ∨ (q.kind = 5 ∧ n.t ≠ m.t)) := by
    rintro (h1 | ⟨h1, h2⟩)
    · rw [(rightQ_iff n q).2 h] at h1; cases h1
    · exact h2 (ht h1)
  unfold runQ
  rw [if_neg hb]
  rfl
theorem run_bad {n m : Nw} {q : Qy} (h : ¬ RightQ n q) : runQ n m q = (⟨false, 0, 0, noTk⟩, 121) := by
  unfold runQ
  rw [if_pos]
  left
  cases hq : rightQ n q with
  | false => rfl
  | true => exact absurd ((rightQ_iff n q).1 hq) h

/-! ### With itself -/
theorem right5 {n : Nw} (hn : rightN n = true) {r : Rg} (hr : r.lo ≤ r.hi) (o : ByteArray) : RightQ n ⟨5, 0, 0, 0, r, o⟩ := by
  have := right_ports hn
  exact ⟨by simp, by simp, hr, by simp only []; omega, by simp only []; omega, by simp only []; omega, .inr ⟨rfl, rfl⟩, .inr rfl, .inl rfl⟩
theorem self_run {n : Nw} (hn : rightN n = true) {r : Rg} (hr : r.lo ≤ r.hi) (o : ByteArray) : runQ n n ⟨5, 0, 0, 0, r, o⟩ = (⟨true, 0, 0, noTk⟩, 0) := by
  rw [run_of (right5 hn hr o) fun _ => rfl]
  have : seeks n (if (5 : Int) = 5 then n else n) ⟨5, 0, 0, 0, r, o⟩ (cutP [n, if (5 : Int) = 5 then n else n] r) (sourcesQ n ⟨5, 0, 0, 0, r, o⟩) = none := by
    rw [seeks_none]
    intro d _ p _
    rw [breaksQ_5 rfl]
    simp
  rw [this]
theorem seek_turn {n m : Nw} {q : Qy} (k : q.kind = 5) (d : Int) : ∀ P : List Rg, (seek n m q d P).map (fun v => (v.holds, v.src, v.addr)) = (seek m n q d P).map fun v => (v.holds, v.src, v.addr)
  | [] => rfl
  | r :: rs => by
    simp only [seek, breaksQ_5 k]
    by_cases h : (traceR n d r.lo).1 = (traceR m d r.lo).1
    · simp [h]; exact seek_turn k d rs
    · have h' : ¬ (traceR m d r.lo).1 = (traceR n d r.lo).1 := fun e => h e.symm
      simp [h, h']
theorem seeks_turn {n m : Nw} {q : Qy} (k : q.kind = 5) (P : List Rg) : ∀ S : List Int, (seeks n m q P S).map (fun v => (v.holds, v.src, v.addr)) = (seeks m n q P S).map fun v => (v.holds, v.src, v.addr)
  | [] => rfl
  | d :: ds => by
    have h := seek_turn (n := n) (m := m) k d P
    have ih := seeks_turn (n := n) (m := m) k P ds
    simp only [seeks]
    cases h1 : seek n m q d P <;> cases h2 : seek m n q d P <;> rw [h1, h2] at h <;> simp at h
    · exact ih
    · simpa using h
theorem cutP_turn {n m : Nw} (hn : rightN n = true) (hm : rightN m = true) {r : Rg} (hr : r.lo ≤ r.hi) : cutP [n, m] r = cutP [m, n] r := by
  rw [cutP_right (by simp [hn, hm]) (by simp) hr, cutP_right (by simp [hn, hm]) (by simp) hr]
  have : cutsL (rgsOf [n, m]) = cutsL (rgsOf [m, n]) := cutsL_perm (by
    simp only [rgsOf, List.flatMap_cons, List.flatMap_nil, List.append_nil]
    exact List.perm_append_comm)
  rw [this]
theorem turn_run {n m : Nw} (hn : rightN n = true) (hm : rightN m = true) {r : Rg} (hr : r.lo ≤ r.hi) (o : ByteArray) :
    (runQ n m ⟨5, 0, 0, 0, r, o⟩).2 = (runQ m n ⟨5, 0, 0, 0, r, o⟩).2 ∧ ((runQ n m ⟨5, 0, 0, 0, r, o⟩).2 = 0 → (runQ n m ⟨5, 0, 0, 0, r, o⟩).1.holds = (runQ m n ⟨5, 0, 0, 0, r, o⟩).1.holds ∧ (runQ n m ⟨5, 0, 0, 0, r, o⟩).1.src = (runQ m n ⟨5, 0, 0, 0, r, o⟩).1.src ∧ (runQ n m ⟨5, 0, 0, 0, r, o⟩).1.addr = (runQ m n ⟨5, 0, 0, 0, r, o⟩).1.addr) := by
  by_cases ht : n.t = m.t
  · rw [run_of (right5 hn hr o) fun _ => ht, run_of (right5 hm hr o) fun _ => ht.symm]
    have e : sourcesQ m ⟨5, 0, 0, 0, r, o⟩ = sourcesQ n ⟨5, 0, 0, 0, r, o⟩ := by unfold sourcesQ; rw [ht]
    have h := seeks_turn (n := n) (m := m) (q := ⟨5, 0, 0, 0, r, o⟩) rfl (cutP [n, m] r) (sourcesQ n ⟨5, 0, 0, 0, r, o⟩)
    rw [e]
    simp only [if_true]
    rw [← cutP_turn hn hm hr]
    cases h1 : seeks n m ⟨5, 0, 0, 0, r, o⟩ (cutP [n, m] r) (sourcesQ n ⟨5, 0, 0, 0, r, o⟩) <;> cases h2 : seeks m n ⟨5, 0, 0, 0, r, o⟩ (cutP [n, m] r) (sourcesQ n ⟨5, 0, 0, 0, r, o⟩) <;> rw [h1, h2] at h <;> simp at h
    · simp
    · simp [h]
  · have b1 : runQ n m ⟨5, 0, 0, 0, r, o⟩ = (⟨false, 0, 0, noTk⟩, 121) := by unfold runQ; rw [if_pos (.inr ⟨rfl, ht⟩)]
    have b2 : runQ m n ⟨5, 0, 0, 0, r, o⟩ = (⟨false, 0, 0, noTk⟩, 121) := by unfold runQ; rw [if_pos (.inr ⟨rfl, fun e => ht e.symm⟩)]
    rw [b1, b2]; simp
theorem step_three {n : Nw} {d a : Int} (h : (stepF n d a).1 = 3) : (stepF n d a).2.dev = d := by
  unfold stepF at *
  repeat' split at h
  all_goals first | (simp at h; done) | skip
  rename_i h1 h2 h3 h4
  simp [h1, h2, h3, h4]
theorem walk_out {n : Nw} {a : Int} : ∀ (f : Nat) (d : Int) (p : List Int), (walkT n a f d p).out = 3 → (walkT n a f d p).last.dev ∈ (walkT n a f d p).path
  | 0, d, p, h => by simp [walkT] at h
  | f + 1, d, p, h => by
    simp only [walkT] at h ⊢
    split
    · rename_i hd; rw [if_pos hd] at h; simp at h
    · rename_i hd
      rw [if_neg hd] at h
      split
      · rename_i hs; rw [if_pos hs] at h; exact walk_out f _ _ h
      · rename_i hs
        rw [if_neg hs] at h
        simp only [] at h ⊢
        rw [step_three h]; simp
theorem leaves_comes {n : Nw} {d a b : Int} (h : leavesB (traceF n d a) b = true) : comesB (traceF n d a) b = true := by
  unfold leavesB at h
  simp only [Bool.and_eq_true, decide_eq_true_eq] at h
  have := walk_out _ _ _ h.1
  unfold comesB
  rw [List.any_eq_true]
  exact ⟨b, by rw [← h.2]; exact this, by simp⟩
theorem two_run {n : Nw} (hn : rightN n = true) (a b : Int) {r : Rg} (hr : r.lo ≤ r.hi) (hok : RgOK r) {o : ByteArray} (ho : ∀ k a b, noOther ⟨k, a, b, 0, r, o⟩ = true) :
    (runQ n n ⟨3, a, b, 0, r, o⟩).2 = (runQ n n ⟨0, a, b, 0, r, o⟩).2 ∧ ((runQ n n ⟨3, a, b, 0, r, o⟩).2 = 0 → (runQ n n ⟨3, a, b, 0, r, o⟩).1.holds = false ∨ (runQ n n ⟨0, a, b, 0, r, o⟩).1.holds = false) := by
  by_cases h3 : RightQ n ⟨3, a, b, 0, r, o⟩
  · have h0 : RightQ n ⟨0, a, b, 0, r, o⟩ := ⟨by simp, by simp, hr, h3.a, h3.b, h3.w, .inl rfl, .inr rfl, .inr (ho _ _ _)⟩
    rw [run_of h3 fun _ => rfl, run_of h0 fun _ => rfl]
    have e3 : sourcesQ n ⟨3, a, b, 0, r, o⟩ = [a] := rfl
    have e0 : sourcesQ n ⟨0, a, b, 0, r, o⟩ = [a] := rfl
    rw [e3, e0]
    simp only [if_neg (show ¬ ((3 : Int) = 5) by omega), if_neg (show ¬ ((0 : Int) = 5) by omega)]
    obtain ⟨P, hP⟩ : ∃ P, cutP [n, n] r = P := ⟨_, rfl⟩
    have hne : ∃ p, p ∈ P := by
      rw [← hP, cutP_right (by simp [hn]) (by simp) hr]
      obtain ⟨p, hp, _⟩ := part_has (cutsL_cuts (rgsOf [n, n])) (r := r) (x := r.lo) hok.lo0 hok.lo1 ⟨Int.le_refl _, hr⟩
      exact ⟨p, hp⟩
    rw [hP]
    cases k3 : seeks n n ⟨3, a, b, 0, r, o⟩ P [a] with
    | some v =>
      obtain ⟨d, _, p, _, rfl, _⟩ := seeks_some k3
      cases seeks n n ⟨0, a, b, 0, r, o⟩ P [a] with
      | none => simp
      | some w => simp
    | none =>
      cases k0 : seeks n n ⟨0, a, b, 0, r, o⟩ P [a] with
      | some v =>
        obtain ⟨d, _, p, _, rfl, _⟩ := seeks_some k0
        simp
      | none =>
        exfalso
        obtain ⟨p, hp⟩ := hne
        have g3 := seeks_none.1 k3 a (by simp) p hp
        have g0 := seeks_none.1 k0 a (by simp) p hp
        rw [trace_ok h3.a] at g3 g0
        have g3' : comesB (traceF n a p.lo) b = false := g3
        have g0' : (!leavesB (traceF n a p.lo) b) = false := g0
        have := leaves_comes (n := n) (d := a) (a := p.lo) (b := b) (by simpa using g0')
        rw [this] at g3'; cases g3'
  · have h0 : ¬ RightQ n ⟨0, a, b, 0, r, o⟩ := fun h => h3 ⟨by simp, by simp, hr, h.a, h.b, h.w, .inl rfl, .inr rfl, .inr (ho _ _ _)⟩
    rw [run_bad h3, run_bad h0]; simp

/-! ### Parts, and packets -/
theorem walk_head {n : Nw} {a : Int} : ∀ (f : Nat) (d : Int) (p : List Int), ∃ l, (walkT n a (f + 1) d p).path = p ++ d :: l
  | f, d, p => by
    simp only [walkT]
    split
    · exact ⟨[], rfl⟩
    · split
      · cases f with
        | zero => exact ⟨[], by simp [walkT]⟩
        | succ f =>
          obtain ⟨l, hl⟩ := walk_head f (nextDev n (stepF n d a).2) (p ++ [d])
          exact ⟨_, by rw [hl, List.append_assoc]; rfl⟩
      · exact ⟨[], rfl⟩
theorem trace_head (n : Nw) (d a : Int) : ∃ l, (traceF n d a).path = d :: l := by
  have := walk_head (n := n) (a := a) (1 + 2 * n.t.links.length) d []
  unfold traceF
  rw [show 2 + 2 * n.t.links.length = 1 + 2 * n.t.links.length + 1 by omega]
  simpa using this
theorem genuine_own {n : Nw} {d : Int} (h : 0 ≤ d ∧ d < n.t.ports.length) (a : Int) : genuineB n a (traceF n d a) = true := by
  obtain ⟨l, hl⟩ := trace_head n d a
  unfold genuineB
  rw [hl]
  simp only [trace_ok h]
  simp
/-- A break anywhere shows at a part. -/
theorem break_part {n M : Nw} (hn : rightN n = true) (hM : rightN M = true) {r : Rg} (hr : r.lo ≤ r.hi) (hok : RgOK r) (q : Qy) {d x : Int} (hx : r.lo ≤ x ∧ x ≤ r.hi) (hb : breaksQ q (traceR n d x).1 (traceR M d x).1 = true) :
    ∃ p ∈ cutP [n, M] r, p.lo ≤ x ∧ breaksQ q (traceR n d p.lo).1 (traceR M d p.lo).1 = true := by
  rw [cutP_right (by simp [hn, hM]) (by simp) hr]
  obtain ⟨a1, a2, a3, a4⟩ := hok
  have hc := cutsL_cuts (rgsOf [n, M])
  obtain ⟨p, hp, h1, h2⟩ := part_has hc (r := r) (x := x) (by omega) (by omega) hx
  refine ⟨p, hp, h1, ?_⟩
  obtain ⟨a, ha, b1, b2, b3, b4, b5⟩ := part_mem hp
  have hs : SameSide (rgsOf [n, M]) p.lo x := atom_side hc.srt ha ⟨b1, by omega⟩ ⟨by omega, by omega⟩
  rw [trace_same (rgsOf_mem (by simp)) hs (by omega) (by omega), trace_same (n := M) (rgsOf_mem (by simp)) hs (by omega) (by omega)]
  exact hb
theorem part_in {l : List Nw} {r p : Rg} (h : p ∈ cutP l r) : r.lo ≤ p.lo ∧ p.lo ≤ p.hi ∧ p.hi ≤ r.hi := by
  unfold cutP at h
  split at h
  · simp at h
  · obtain ⟨a, _, b1, b2, b3, b4, b5⟩ := part_mem h
    omega
theorem part_sub {n m : Nw} (hn : rightN n = true) (hm : rightN m = true) {q : Qy} (hok : RgOK q.r) (h : (runQ n m q).2 = 0) (hh : (runQ n m q).1.holds = true) {r' : Rg} (hok' : RgOK r') (h1 : q.r.lo ≤ r'.lo) (h2 : r'.hi ≤ q.r.hi) :
    (r'.lo ≤ r'.hi → runQ n m { q with r := r' } = (⟨true, 0, 0, noTk⟩, 0)) ∧ (r'.hi < r'.lo → (runQ n m { q with r := r' }).2 = 121) := by
  obtain ⟨k1, k2, k3, k4⟩ := run_ok h
  refine ⟨fun hle => ?_, fun hlt => ?_⟩
  · have hM : rightN (if q.kind = 5 then m else n) = true := by split <;> assumption
    have hR : RightQ n { q with r := r' } := ⟨k1.k0, k1.k5, hle, k1.a, k1.b, k1.w, k1.one, k1.way, k1.oth⟩
    rw [run_of hR k2]
    have hS : sourcesQ n { q with r := r' } = sourcesQ n q := rfl
    rw [hS]
    have hnone : seeks n (if q.kind = 5 then m else n) q (cutP [n, if q.kind = 5 then m else n] q.r) (sourcesQ n q) = none := by
      rcases k4 with k4 | k4
      · exact k4.2
      · obtain ⟨d, _, p, _, e, _⟩ := seeks_some k4
        rw [e] at hh; cases hh
    have : seeks n (if q.kind = 5 then m else n) { q with r := r' } (cutP [n, if q.kind = 5 then m else n] r') (sourcesQ n q) = none := by
      rw [seeks_none]
      intro d hd p hp
      obtain ⟨p1, p2, p3⟩ := part_in hp
      have hb : breaksQ { q with r := r' } (traceR n d p.lo).1 (traceR (if q.kind = 5 then m else n) d p.lo).1 = breaksQ q (traceR n d p.lo).1 (traceR (if q.kind = 5 then m else n) d p.lo).1 := rfl
      rw [hb]
      cases hbb : breaksQ q (traceR n d p.lo).1 (traceR (if q.kind = 5 then m else n) d p.lo).1 with
      | false => rfl
      | true =>
        obtain ⟨p', hp', _, hb'⟩ := break_part hn hM k1.le hok q (by omega) hbb
        rw [seeks_none.1 hnone d hd p' hp'] at hb'; cases hb'
    simp only []
    rw [this]
  · have : ¬ RightQ n { q with r := r' } := fun h => by have := h.le; simp only [] at this; omega
    rw [run_bad this]
theorem cut_one {l : List Nw} {x : Int} (h0 : 0 ≤ x) (h1 : x < 4294967296) (hl : ∀ n ∈ l, rightN n = true) (hl2 : l.length ≤ 12) : ∀ p ∈ cutP l ⟨x, x⟩, p.lo = x := by
  intro p hp
  have := part_in hp
  simp only [] at this
  omega
theorem part_one {n m : Nw} (hn : rightN n = true) (hm : rightN m = true) {q : Qy} (hok : RgOK q.r) (h : (runQ n m q).2 = 0) (hh : (runQ n m q).1.holds = false) :
    runQ n m { q with r := ⟨(runQ n m q).1.addr, (runQ n m q).1.addr⟩ } = runQ n m q := by
  obtain ⟨k1, k2, k3, k4⟩ := run_ok h
  have he : runQ n m q = ((runQ n m q).1, 0) := by rw [← h]
  generalize (runQ n m q).1 = v at *
  rcases k4 with k4 | k4
  · rw [k4.1] at hh; cases hh
  · have hM : rightN (if q.kind = 5 then m else n) = true := by split <;> assumption
    obtain ⟨M, hMe⟩ : ∃ M, (if q.kind = 5 then m else n) = M := ⟨_, rfl⟩
    rw [hMe] at k3 k4 hM
    obtain ⟨d, hd, p, hp, e, hb⟩ := seeks_some k4
    obtain ⟨p1, p2, p3⟩ := part_in hp
    obtain ⟨a1, a2, a3, a4⟩ := hok
    have hva : v.addr = p.lo := by rw [e]
    have hvs : v.src = d := by rw [e]
    have hx0 : 0 ≤ v.addr := by omega
    have hx1 : v.addr < 4294967296 := by omega
    have hR : RightQ n { q with r := ⟨v.addr, v.addr⟩ } := ⟨k1.k0, k1.k5, Int.le_refl _, k1.a, k1.b, k1.w, k1.one, k1.way, k1.oth⟩
    rw [run_of hR k2, he]
    have hS : sourcesQ n { q with r := ⟨v.addr, v.addr⟩ } = sourcesQ n q := rfl
    simp only []
    rw [hMe, hS]
    have hone := cut_one (l := [n, M]) hx0 hx1 (by simp [hn, hM]) (by simp)
    have hne : ∃ p', p' ∈ cutP [n, M] ⟨v.addr, v.addr⟩ := by
      rw [cutP_right (by simp [hn, hM]) (by simp) (Int.le_refl _)]
      obtain ⟨p', hp', _⟩ := part_has (cutsL_cuts (rgsOf [n, M])) (r := ⟨v.addr, v.addr⟩) hx0 hx1 ⟨Int.le_refl _, Int.le_refl _⟩
      exact ⟨p', hp'⟩
    have key : seeks n M { q with r := ⟨v.addr, v.addr⟩ } (cutP [n, M] ⟨v.addr, v.addr⟩) (sourcesQ n q) = some v := by
      cases hs : seeks n M { q with r := ⟨v.addr, v.addr⟩ } (cutP [n, M] ⟨v.addr, v.addr⟩) (sourcesQ n q) with
      | none =>
        exfalso
        obtain ⟨p', hp'⟩ := hne
        have := seeks_none.1 hs d hd p' hp'
        rw [hone p' hp'] at this
        simp only [hva] at this
        have hb2 : breaksQ q (traceR n d p.lo).1 (traceR M d p.lo).1 = false := this
        rw [hb] at hb2; cases hb2
      | some w =>
        obtain ⟨d', hd', p', hp', e', hb'⟩ := seeks_some hs
        have hpl := hone p' hp'
        rw [hpl] at e' hb'
        have hP : cutP [n, M] q.r = cutC (cutsL (rgsOf [n, M])) q.r := cutP_right (by simp [hn, hM]) (by simp) k1.le
        have hsrt := parts_srt (cutsL_cuts (rgsOf [n, M])).srt q.r
        rw [← hP] at hsrt
        have f1 := seeks_first hsrt (fun p hp => (part_in hp).2.1) (sources_srt n q) k4 d' hd' p hp (by rw [← hva]; exact hb')
        have hP2 : cutP [n, M] ⟨v.addr, v.addr⟩ = cutC (cutsL (rgsOf [n, M])) ⟨v.addr, v.addr⟩ := cutP_right (by simp [hn, hM]) (by simp) (Int.le_refl _)
        have hsrt2 := parts_srt (cutsL_cuts (rgsOf [n, M])).srt ⟨v.addr, v.addr⟩
        rw [← hP2] at hsrt2
        have f2 := seeks_first hsrt2 (fun p hp => (part_in hp).2.1) (sources_srt n q) hs d hd p' hp' (by rw [hpl, hva]; exact hb)
        have hws : w.src = d' := by rw [e']
        have : d' = d := by omega
        subst this
        rw [e', hva]
        exact congrArg some e.symm
    rw [key]
structure Broken (n m : Nw) (q : Qy) (v : Vd) : Prop where
  lo : q.r.lo ≤ v.addr
  hi : v.addr ≤ q.r.hi
  dev : q.kind = 5 → (traceR m v.src v.addr).2 = 0
  gen : genuineB n v.addr v.tr = true
  head : ∃ l, v.tr.path = v.src :: l
  brk : breaksQ q v.tr (traceR m v.src v.addr).1 = true
theorem broken_run {n m : Nw} {q : Qy} (h : (runQ n m q).2 = 0) (hh : (runQ n m q).1.holds = false) : Broken n m q (runQ n m q).1 := by
  obtain ⟨k1, k2, k3, k4⟩ := run_ok h
  generalize (runQ n m q).1 = v at *
  rcases k4 with k4 | k4
  · rw [k4.1] at hh; cases hh
  · obtain ⟨d, hd, p, hp, e, hb⟩ := seeks_some k4
    obtain ⟨p1, p2, p3⟩ := part_in hp
    have hdo := source_ok k1 hd
    rw [trace_ok hdo] at e hb
    have h5 : q.kind = 5 → (traceR m d p.lo).2 = 0 := fun k => by
      rw [trace_ok]
      rw [← k2 k]; exact hdo
    subst e
    refine ⟨p1, by simp only []; omega, h5, genuine_own hdo _, trace_head n d p.lo, ?_⟩
    simp only [] at hb ⊢
    by_cases k : q.kind = 5
    · rw [if_pos k] at hb; exact hb
    · rw [breaksQ_u k _ _ (traceR (if q.kind = 5 then m else n) d p.lo).1]; exact hb
theorem holds_run {n m : Nw} {q : Qy} (h : (runQ n m q).2 = 0) (hh : (runQ n m q).1.holds = true) : (runQ n m q).1 = ⟨true, 0, 0, noTk⟩ := by
  obtain ⟨k1, k2, k3, k4⟩ := run_ok h
  rcases k4 with k4 | k4
  · exact k4.1
  · obtain ⟨d, hd, p, hp, e, hb⟩ := seeks_some k4
    rw [e] at hh; cases hh
theorem packet_run {n m : Nw} (hn : rightN n = true) (hm : rightN m = true) {q : Qy} (hok : RgOK q.r) (h : (runQ n m q).2 = 0) {d x : Int} (hd : d ∈ sourcesQ n q) (hx : q.r.lo ≤ x ∧ x ≤ q.r.hi) (hb : breaksQ q (traceR n d x).1 (traceR m d x).1 = true) :
    (runQ n m q).1.holds = false ∧ ((runQ n m q).1.src < d ∨ (runQ n m q).1.src = d ∧ (runQ n m q).1.addr ≤ x) := by
  obtain ⟨k1, k2, k3, k4⟩ := run_ok h
  generalize (runQ n m q).1 = v at *
  have hM : rightN (if q.kind = 5 then m else n) = true := by split <;> assumption
  have hb' : breaksQ q (traceR n d x).1 (traceR (if q.kind = 5 then m else n) d x).1 = true := by
    by_cases k : q.kind = 5
    · rw [if_pos k]; exact hb
    · rw [breaksQ_u k _ _ (traceR m d x).1]; exact hb
  generalize (if q.kind = 5 then m else n) = M at *
  obtain ⟨p, hp, hpx, hpb⟩ := break_part hn hM k1.le hok q hx hb'
  rcases k4 with k4 | k4
  · rw [seeks_none.1 k4.2 d hd p hp] at hpb; cases hpb
  · have hP : cutP [n, M] q.r = cutC (cutsL (rgsOf [n, M])) q.r := cutP_right (by simp [hn, hM]) (by simp) k1.le
    have hsrt := parts_srt (cutsL_cuts (rgsOf [n, M])).srt q.r
    rw [← hP] at hsrt
    have f1 := seeks_first hsrt (fun p hp => (part_in hp).2.1) (sources_srt n q) k4 d hd p hp hpb
    obtain ⟨d', _, p', _, e, _⟩ := seeks_some k4
    refine ⟨by rw [e], ?_⟩
    omega
end Go.Proofs.Ytanimmdlgmkmkaa.Av

/- Queries: the law QuerySelf walked. -/
namespace Go.Proofs.Ytanimmdlgmkmkaa.Av
open Go
set_option linter.unusedSimpArgs false
set_option linter.unusedVariables false
set_option maxRecDepth 100000
set_option maxHeartbeats 4000000
set_option pp.maxSteps 600

theorem fits12_right {n m : Nw} {q : Qy} (h : fits12 n m q = true) : rightN n = true ∧ rightN m = true := by
  unfold fits12 fits09 at h
  simp only [Bool.and_eq_true] at h
  exact ⟨h.1.2.2.2, h.2.1.2.2.2⟩
theorem fits12_ok {n m : Nw} {q : Qy} (hn : NwW n) (hm : NwW m) (h : fits12 n m q = true) : NwOK n ∧ NwOK m := by
  unfold fits12 at h
  simp only [Bool.and_eq_true] at h
  exact ⟨hn.fits h.1, hm.fits h.2.1⟩
def qz (k a b : Int) (r : Rg) : Qy := ⟨k, a, b, 0, r, ⟨#[]⟩⟩
theorem qz_fold (k a b : Int) (r : Rg) : AV.agg [.raw (.int .i64 k), .raw (.int .i64 a), .raw (.int .i64 b), .raw (.int .i64 0), .raw (.int .u32 r.lo), .raw (.int .u32 r.hi), .raw (.string ⟨#[]⟩)] = qyAV (qz k a b r) := rfl
theorem self_calls (n m : Nw) (f g : Fl) (a b : Int) (r : Rg) (hn : NwW n) (hm : NwW m) (hr : RgOK r) :
    PCalls Try.prog 3 [nw2AV n m f g, .agg [.raw (.int .i64 a), .raw (.int .i64 b)], rgAV r] (.raw (.bool true)) := by
  have hal := alive12_calls
  have hfit := fits12_calls n m f g (qz 0 0 0 ⟨0, 0⟩) hn hm
  have e0 : qyAV (qz 0 0 0 ⟨0, 0⟩) = .agg [.raw (.int .i64 0), .raw (.int .i64 0), .raw (.int .i64 0), .raw (.int .i64 0), .raw (.int .u32 0), .raw (.int .u32 0), .raw (.string ⟨#[]⟩)] := rfl
  rw [e0] at hfit
  refine pbody Try.func3 rfl (N := 144) rfl rfl (by simp) (by simp [noIds]) fun σ => ?_
  cases hf : fits12 n m (qz 0 0 0 ⟨0, 0⟩) with
  | false =>
    rw [hf] at hfit
    (try (first | (with_reducible refine dops_go ?_; simp [-cellOK, nw2_cells, nw2_fold, rg_cells]) | (with_reducible refine OKv_go ?_; simp [-cellOK, nw2_cells, nw2_fold, rg_cells]) | (with_reducible refine OKr_go ?_; simp [-cellOK, nw2_cells, nw2_fold, rg_cells]))); repeat' (first | refine awp_seq ?_ | refine awp_block ?_ | (refine awp_skip ?_; try simp) | (refine awp_exit ?_; try simp) | (refine awp_ret ?_; try simp) | (refine retP_same (by simp) ?_; simp) | (refine retP_no (by simp) (by simp [noIds]) (by repeat (first | assumption | exact Ext.refl _ | refine ext_new' ?_ | refine Ext.setF ?_ (by first | assumption | (simp [new_nx', St.set, fresh_none]; done) | exact ext_fresh (by assumption)))) ?_; simp [-cellOK, nw2_cells, nw2_fold, rg_cells, new_m, set_m, new_nx']) | (refine awp_reg ?_; simp [-cellOK, nw2_cells, nw2_fold, rg_cells]) | (refine awp_drawT (fun _ => false) mixed (by decide +kernel) ?_; simp [-cellOK, nw2_cells, nw2_fold, rg_cells]) | (refine guarded_split ?_ ?_ <;> (intro hg; simp only [hg]; simp [-cellOK, nw2_cells, nw2_fold, rg_cells])) | (apply awp_cond_t; focus (simp [-cellOK, nw2_cells, nw2_fold, rg_cells]; done)) | (apply awp_cond_f; focus (simp [-cellOK, nw2_cells, nw2_fold, rg_cells]; done)) | (refine awp_cond ?_; simp [-cellOK, nw2_cells, nw2_fold, rg_cells]; refine ⟨?_, ?_⟩ <;> intro hc) | (refine awp_drawT isCallO mixed (by decide +kernel) ?_; simp [-cellOK, nw2_cells, nw2_fold, rg_cells]) | (refine PCalls.use (hfit) ?_; simp [-cellOK, nw2_cells, nw2_fold, rg_cells]) | (refine Or.inl ⟨_, Or.inl (hfit), ?_⟩; simp [-cellOK, nw2_cells, nw2_fold, rg_cells]) | (refine PCalls.use (hal) ?_; simp [-cellOK, nw2_cells, nw2_fold, rg_cells]) | (refine Or.inl ⟨_, Or.inl (hal), ?_⟩; simp [-cellOK, nw2_cells, nw2_fold, rg_cells]) | fail)
  | true =>
  rw [hf] at hfit
  obtain ⟨rn, rm⟩ := fits12_right hf
  obtain ⟨hn, hm⟩ := fits12_ok hn hm hf
  by_cases hle : r.hi < r.lo
  · (try (first | (with_reducible refine dops_go ?_; simp [-cellOK, nw2_cells, nw2_fold, rg_cells, hle]) | (with_reducible refine OKv_go ?_; simp [-cellOK, nw2_cells, nw2_fold, rg_cells, hle]) | (with_reducible refine OKr_go ?_; simp [-cellOK, nw2_cells, nw2_fold, rg_cells, hle]))); repeat' (first | refine awp_seq ?_ | refine awp_block ?_ | (refine awp_skip ?_; try simp) | (refine awp_exit ?_; try simp) | (refine awp_ret ?_; try simp) | (refine retP_same (by simp) ?_; simp) | (refine retP_no (by simp) (by simp [noIds]) (by repeat (first | assumption | exact Ext.refl _ | refine ext_new' ?_ | refine Ext.setF ?_ (by first | assumption | (simp [new_nx', St.set, fresh_none]; done) | exact ext_fresh (by assumption)))) ?_; simp [-cellOK, nw2_cells, nw2_fold, rg_cells, hle, new_m, set_m, new_nx']) | (refine awp_reg ?_; simp [-cellOK, nw2_cells, nw2_fold, rg_cells, hle]) | (refine awp_drawT (fun _ => false) mixed (by decide +kernel) ?_; simp [-cellOK, nw2_cells, nw2_fold, rg_cells, hle]) | (refine guarded_split ?_ ?_ <;> (intro hg; simp only [hg]; simp [-cellOK, nw2_cells, nw2_fold, rg_cells, hle])) | (apply awp_cond_t; focus (simp [-cellOK, nw2_cells, nw2_fold, rg_cells, hle]; done)) | (apply awp_cond_f; focus (simp [-cellOK, nw2_cells, nw2_fold, rg_cells, hle]; done)) | (refine awp_cond ?_; simp [-cellOK, nw2_cells, nw2_fold, rg_cells, hle]; refine ⟨?_, ?_⟩ <;> intro hc) | (refine awp_drawT isCallO mixed (by decide +kernel) ?_; simp [-cellOK, nw2_cells, nw2_fold, rg_cells, hle]) | (refine PCalls.use (hfit) ?_; simp [-cellOK, nw2_cells, nw2_fold, rg_cells, hle]) | (refine Or.inl ⟨_, Or.inl (hfit), ?_⟩; simp [-cellOK, nw2_cells, nw2_fold, rg_cells, hle]) | (refine PCalls.use (hal) ?_; simp [-cellOK, nw2_cells, nw2_fold, rg_cells, hle]) | (refine Or.inl ⟨_, Or.inl (hal), ?_⟩; simp [-cellOK, nw2_cells, nw2_fold, rg_cells, hle]) | fail)
  have hle' : r.lo ≤ r.hi := by omega
  have h1 := run_calls n n f f (qz 5 0 0 r) hn hn hr
  have h2 := run_calls n m f g (qz 5 0 0 r) hn hm hr
  have h3 := run_calls m n g f (qz 5 0 0 r) hm hn hr
  have h4 := run_calls n n f f (qz 3 a b r) hn hn hr
  have h5 := run_calls n n f f (qz 0 a b r) hn hn hr
  have s1 : runQ n n (qz 5 0 0 r) = (⟨true, 0, 0, noTk⟩, 0) := self_run rn hle' _
  rw [s1] at h1
  have s2 : (runQ n m (qz 5 0 0 r)).2 = (runQ m n (qz 5 0 0 r)).2 ∧ ((runQ n m (qz 5 0 0 r)).2 = 0 → (runQ n m (qz 5 0 0 r)).1.holds = (runQ m n (qz 5 0 0 r)).1.holds ∧ (runQ n m (qz 5 0 0 r)).1.src = (runQ m n (qz 5 0 0 r)).1.src ∧ (runQ n m (qz 5 0 0 r)).1.addr = (runQ m n (qz 5 0 0 r)).1.addr) := turn_run rn rm hle' _
  have s3 : (runQ n n (qz 3 a b r)).2 = (runQ n n (qz 0 a b r)).2 ∧ ((runQ n n (qz 3 a b r)).2 = 0 → (runQ n n (qz 3 a b r)).1.holds = false ∨ (runQ n n (qz 0 a b r)).1.holds = false) := two_run rn a b hle' hr fun _ _ _ => by simp [noOther]
  obtain ⟨s2, s2'⟩ := s2
  obtain ⟨s3, s3'⟩ := s3
  rw [← s2] at h3
  rw [← s3] at h5
  generalize (runQ n m (qz 5 0 0 r)).2 = e2 at *
  generalize (runQ n m (qz 5 0 0 r)).1 = y at *
  generalize (runQ m n (qz 5 0 0 r)).1 = z at *
  generalize (runQ n n (qz 3 a b r)).2 = e3 at *
  generalize (runQ n n (qz 3 a b r)).1 = i at *
  generalize (runQ n n (qz 0 a b r)).1 = w at *
  have k2 : e2 ≠ 0 ∨ (e2 = 0 ∧ y.holds = z.holds ∧ y.src = z.src ∧ y.addr = z.addr) := by
    by_cases q : e2 = 0
    · exact .inr ⟨q, s2' q⟩
    · exact .inl q
  have k3 : e3 ≠ 0 ∨ (e3 = 0 ∧ i.holds = false) ∨ (e3 = 0 ∧ w.holds = false) := by
    by_cases q : e3 = 0
    · rcases s3' q with h | h
      · exact .inr (.inl ⟨q, h⟩)
      · exact .inr (.inr ⟨q, h⟩)
    · exact .inl q
  rcases k2 with k2 | ⟨k2, y1, y2, y3⟩
  · rcases k3 with k3 | ⟨k3, w1⟩ | ⟨k3, w1⟩
    · (try (first | (with_reducible refine dops_go ?_; simp [-cellOK, nw2_cells, nw2_fold, nw_fold, rg_cells, hle, qz_fold, qy_cells, vd_cells, vd0_fold, vd0_put, vd_fold, new_m, set_m, new_nx', k2, k3]) | (with_reducible refine OKv_go ?_; simp [-cellOK, nw2_cells, nw2_fold, nw_fold, rg_cells, hle, qz_fold, qy_cells, vd_cells, vd0_fold, vd0_put, vd_fold, new_m, set_m, new_nx', k2, k3]) | (with_reducible refine OKr_go ?_; simp [-cellOK, nw2_cells, nw2_fold, nw_fold, rg_cells, hle, qz_fold, qy_cells, vd_cells, vd0_fold, vd0_put, vd_fold, new_m, set_m, new_nx', k2, k3]))); repeat' (first | refine awp_seq ?_ | refine awp_block ?_ | (refine awp_skip ?_; try simp) | (refine awp_exit ?_; try simp) | (refine awp_ret ?_; try simp) | (refine retP_same (by simp) ?_; simp) | (refine retP_no (by simp) (by simp [noIds]) (by repeat (first | assumption | exact Ext.refl _ | refine ext_new' ?_ | refine Ext.setF ?_ (by first | assumption | (simp [new_nx', St.set, fresh_none]; done) | exact ext_fresh (by assumption)))) ?_; simp [-cellOK, nw2_cells, nw2_fold, nw_fold, rg_cells, hle, qz_fold, qy_cells, vd_cells, vd0_fold, vd0_put, vd_fold, new_m, set_m, new_nx', k2, k3, new_m, set_m, new_nx']) | (refine awp_reg ?_; simp [-cellOK, nw2_cells, nw2_fold, nw_fold, rg_cells, hle, qz_fold, qy_cells, vd_cells, vd0_fold, vd0_put, vd_fold, new_m, set_m, new_nx', k2, k3]) | (refine awp_drawT (fun _ => false) mixed (by decide +kernel) ?_; simp [-cellOK, nw2_cells, nw2_fold, nw_fold, rg_cells, hle, qz_fold, qy_cells, vd_cells, vd0_fold, vd0_put, vd_fold, new_m, set_m, new_nx', k2, k3]) | (refine guarded_split ?_ ?_ <;> (intro hg; simp only [hg]; simp [-cellOK, nw2_cells, nw2_fold, nw_fold, rg_cells, hle, qz_fold, qy_cells, vd_cells, vd0_fold, vd0_put, vd_fold, new_m, set_m, new_nx', k2, k3])) | (apply awp_cond_t; focus (simp [-cellOK, nw2_cells, nw2_fold, nw_fold, rg_cells, hle, qz_fold, qy_cells, vd_cells, vd0_fold, vd0_put, vd_fold, new_m, set_m, new_nx', k2, k3]; done)) | (apply awp_cond_f; focus (simp [-cellOK, nw2_cells, nw2_fold, nw_fold, rg_cells, hle, qz_fold, qy_cells, vd_cells, vd0_fold, vd0_put, vd_fold, new_m, set_m, new_nx', k2, k3]; done)) | (refine awp_cond ?_; simp [-cellOK, nw2_cells, nw2_fold, nw_fold, rg_cells, hle, qz_fold, qy_cells, vd_cells, vd0_fold, vd0_put, vd_fold, new_m, set_m, new_nx', k2, k3]; refine ⟨?_, ?_⟩ <;> intro hc) | (refine awp_drawT isCallO mixed (by decide +kernel) ?_; simp [-cellOK, nw2_cells, nw2_fold, nw_fold, rg_cells, hle, qz_fold, qy_cells, vd_cells, vd0_fold, vd0_put, vd_fold, new_m, set_m, new_nx', k2, k3]) | (refine PCalls.use (hfit) ?_; simp [-cellOK, nw2_cells, nw2_fold, nw_fold, rg_cells, hle, qz_fold, qy_cells, vd_cells, vd0_fold, vd0_put, vd_fold, new_m, set_m, new_nx', k2, k3]) | (refine Or.inl ⟨_, Or.inl (hfit), ?_⟩; simp [-cellOK, nw2_cells, nw2_fold, nw_fold, rg_cells, hle, qz_fold, qy_cells, vd_cells, vd0_fold, vd0_put, vd_fold, new_m, set_m, new_nx', k2, k3]) | (refine PCalls.use (h1) ?_; simp [-cellOK, nw2_cells, nw2_fold, nw_fold, rg_cells, hle, qz_fold, qy_cells, vd_cells, vd0_fold, vd0_put, vd_fold, new_m, set_m, new_nx', k2, k3]) | (refine Or.inl ⟨_, Or.inl (h1), ?_⟩; simp [-cellOK, nw2_cells, nw2_fold, nw_fold, rg_cells, hle, qz_fold, qy_cells, vd_cells, vd0_fold, vd0_put, vd_fold, new_m, set_m, new_nx', k2, k3]) | (refine PCalls.use (h2) ?_; simp [-cellOK, nw2_cells, nw2_fold, nw_fold, rg_cells, hle, qz_fold, qy_cells, vd_cells, vd0_fold, vd0_put, vd_fold, new_m, set_m, new_nx', k2, k3]) | (refine Or.inl ⟨_, Or.inl (h2), ?_⟩; simp [-cellOK, nw2_cells, nw2_fold, nw_fold, rg_cells, hle, qz_fold, qy_cells, vd_cells, vd0_fold, vd0_put, vd_fold, new_m, set_m, new_nx', k2, k3]) | (refine PCalls.use (h3) ?_; simp [-cellOK, nw2_cells, nw2_fold, nw_fold, rg_cells, hle, qz_fold, qy_cells, vd_cells, vd0_fold, vd0_put, vd_fold, new_m, set_m, new_nx', k2, k3]) | (refine Or.inl ⟨_, Or.inl (h3), ?_⟩; simp [-cellOK, nw2_cells, nw2_fold, nw_fold, rg_cells, hle, qz_fold, qy_cells, vd_cells, vd0_fold, vd0_put, vd_fold, new_m, set_m, new_nx', k2, k3]) | (refine PCalls.use (h4) ?_; simp [-cellOK, nw2_cells, nw2_fold, nw_fold, rg_cells, hle, qz_fold, qy_cells, vd_cells, vd0_fold, vd0_put, vd_fold, new_m, set_m, new_nx', k2, k3]) | (refine Or.inl ⟨_, Or.inl (h4), ?_⟩; simp [-cellOK, nw2_cells, nw2_fold, nw_fold, rg_cells, hle, qz_fold, qy_cells, vd_cells, vd0_fold, vd0_put, vd_fold, new_m, set_m, new_nx', k2, k3]) | (refine PCalls.use (h5) ?_; simp [-cellOK, nw2_cells, nw2_fold, nw_fold, rg_cells, hle, qz_fold, qy_cells, vd_cells, vd0_fold, vd0_put, vd_fold, new_m, set_m, new_nx', k2, k3]) | (refine Or.inl ⟨_, Or.inl (h5), ?_⟩; simp [-cellOK, nw2_cells, nw2_fold, nw_fold, rg_cells, hle, qz_fold, qy_cells, vd_cells, vd0_fold, vd0_put, vd_fold, new_m, set_m, new_nx', k2, k3]) | (refine PCalls.use (hal) ?_; simp [-cellOK, nw2_cells, nw2_fold, nw_fold, rg_cells, hle, qz_fold, qy_cells, vd_cells, vd0_fold, vd0_put, vd_fold, new_m, set_m, new_nx', k2, k3]) | (refine Or.inl ⟨_, Or.inl (hal), ?_⟩; simp [-cellOK, nw2_cells, nw2_fold, nw_fold, rg_cells, hle, qz_fold, qy_cells, vd_cells, vd0_fold, vd0_put, vd_fold, new_m, set_m, new_nx', k2, k3]) | fail)
    · cases hw : w.holds <;> ((try (first | (with_reducible refine dops_go ?_; simp [-cellOK, nw2_cells, nw2_fold, nw_fold, rg_cells, hle, qz_fold, qy_cells, vd_cells, vd0_fold, vd0_put, vd_fold, new_m, set_m, new_nx', k2, k3, w1, hw]) | (with_reducible refine OKv_go ?_; simp [-cellOK, nw2_cells, nw2_fold, nw_fold, rg_cells, hle, qz_fold, qy_cells, vd_cells, vd0_fold, vd0_put, vd_fold, new_m, set_m, new_nx', k2, k3, w1, hw]) | (with_reducible refine OKr_go ?_; simp [-cellOK, nw2_cells, nw2_fold, nw_fold, rg_cells, hle, qz_fold, qy_cells, vd_cells, vd0_fold, vd0_put, vd_fold, new_m, set_m, new_nx', k2, k3, w1, hw]))); repeat' (first | refine awp_seq ?_ | refine awp_block ?_ | (refine awp_skip ?_; try simp) | (refine awp_exit ?_; try simp) | (refine awp_ret ?_; try simp) | (refine retP_same (by simp) ?_; simp) | (refine retP_no (by simp) (by simp [noIds]) (by repeat (first | assumption | exact Ext.refl _ | refine ext_new' ?_ | refine Ext.setF ?_ (by first | assumption | (simp [new_nx', St.set, fresh_none]; done) | exact ext_fresh (by assumption)))) ?_; simp [-cellOK, nw2_cells, nw2_fold, nw_fold, rg_cells, hle, qz_fold, qy_cells, vd_cells, vd0_fold, vd0_put, vd_fold, new_m, set_m, new_nx', k2, k3, w1, hw, new_m, set_m, new_nx']) | (refine awp_reg ?_; simp [-cellOK, nw2_cells, nw2_fold, nw_fold, rg_cells, hle, qz_fold, qy_cells, vd_cells, vd0_fold, vd0_put, vd_fold, new_m, set_m, new_nx', k2, k3, w1, hw]) | (refine awp_drawT (fun _ => false) mixed (by decide +kernel) ?_; simp [-cellOK, nw2_cells, nw2_fold, nw_fold, rg_cells, hle, qz_fold, qy_cells, vd_cells, vd0_fold, vd0_put, vd_fold, new_m, set_m, new_nx', k2, k3, w1, hw]) | (refine guarded_split ?_ ?_ <;> (intro hg; simp only [hg]; simp [-cellOK, nw2_cells, nw2_fold, nw_fold, rg_cells, hle, qz_fold, qy_cells, vd_cells, vd0_fold, vd0_put, vd_fold, new_m, set_m, new_nx', k2, k3, w1, hw])) | (apply awp_cond_t; focus (simp [-cellOK, nw2_cells, nw2_fold, nw_fold, rg_cells, hle, qz_fold, qy_cells, vd_cells, vd0_fold, vd0_put, vd_fold, new_m, set_m, new_nx', k2, k3, w1, hw]; done)) | (apply awp_cond_f; focus (simp [-cellOK, nw2_cells, nw2_fold, nw_fold, rg_cells, hle, qz_fold, qy_cells, vd_cells, vd0_fold, vd0_put, vd_fold, new_m, set_m, new_nx', k2, k3, w1, hw]; done)) | (refine awp_cond ?_; simp [-cellOK, nw2_cells, nw2_fold, nw_fold, rg_cells, hle, qz_fold, qy_cells, vd_cells, vd0_fold, vd0_put, vd_fold, new_m, set_m, new_nx', k2, k3, w1, hw]; refine ⟨?_, ?_⟩ <;> intro hc) | (refine awp_drawT isCallO mixed (by decide +kernel) ?_; simp [-cellOK, nw2_cells, nw2_fold, nw_fold, rg_cells, hle, qz_fold, qy_cells, vd_cells, vd0_fold, vd0_put, vd_fold, new_m, set_m, new_nx', k2, k3, w1, hw]) | (refine PCalls.use (hfit) ?_; simp [-cellOK, nw2_cells, nw2_fold, nw_fold, rg_cells, hle, qz_fold, qy_cells, vd_cells, vd0_fold, vd0_put, vd_fold, new_m, set_m, new_nx', k2, k3, w1, hw]) | (refine Or.inl ⟨_, Or.inl (hfit), ?_⟩; simp [-cellOK, nw2_cells, nw2_fold, nw_fold, rg_cells, hle, qz_fold, qy_cells, vd_cells, vd0_fold, vd0_put, vd_fold, new_m, set_m, new_nx', k2, k3, w1, hw]) | (refine PCalls.use (h1) ?_; simp [-cellOK, nw2_cells, nw2_fold, nw_fold, rg_cells, hle, qz_fold, qy_cells, vd_cells, vd0_fold, vd0_put, vd_fold, new_m, set_m, new_nx', k2, k3, w1, hw]) | (refine Or.inl ⟨_, Or.inl (h1), ?_⟩; simp [-cellOK, nw2_cells, nw2_fold, nw_fold, rg_cells, hle, qz_fold, qy_cells, vd_cells, vd0_fold, vd0_put, vd_fold, new_m, set_m, new_nx', k2, k3, w1, hw]) | (refine PCalls.use (h2) ?_; simp [-cellOK, nw2_cells, nw2_fold, nw_fold, rg_cells, hle, qz_fold, qy_cells, vd_cells, vd0_fold, vd0_put, vd_fold, new_m, set_m, new_nx', k2, k3, w1, hw]) | (refine Or.inl ⟨_, Or.inl (h2), ?_⟩; simp [-cellOK, nw2_cells, nw2_fold, nw_fold, rg_cells, hle, qz_fold, qy_cells, vd_cells, vd0_fold, vd0_put, vd_fold, new_m, set_m, new_nx', k2, k3, w1, hw]) | (refine PCalls.use (h3) ?_; simp [-cellOK, nw2_cells, nw2_fold, nw_fold, rg_cells, hle, qz_fold, qy_cells, vd_cells, vd0_fold, vd0_put, vd_fold, new_m, set_m, new_nx', k2, k3, w1, hw]) | (refine Or.inl ⟨_, Or.inl (h3), ?_⟩; simp [-cellOK, nw2_cells, nw2_fold, nw_fold, rg_cells, hle, qz_fold, qy_cells, vd_cells, vd0_fold, vd0_put, vd_fold, new_m, set_m, new_nx', k2, k3, w1, hw]) | (refine PCalls.use (h4) ?_; simp [-cellOK, nw2_cells, nw2_fold, nw_fold, rg_cells, hle, qz_fold, qy_cells, vd_cells, vd0_fold, vd0_put, vd_fold, new_m, set_m, new_nx', k2, k3, w1, hw]) | (refine Or.inl ⟨_, Or.inl (h4), ?_⟩; simp [-cellOK, nw2_cells, nw2_fold, nw_fold, rg_cells, hle, qz_fold, qy_cells, vd_cells, vd0_fold, vd0_put, vd_fold, new_m, set_m, new_nx', k2, k3, w1, hw]) | (refine PCalls.use (h5) ?_; simp [-cellOK, nw2_cells, nw2_fold, nw_fold, rg_cells, hle, qz_fold, qy_cells, vd_cells, vd0_fold, vd0_put, vd_fold, new_m, set_m, new_nx', k2, k3, w1, hw]) | (refine Or.inl ⟨_, Or.inl (h5), ?_⟩; simp [-cellOK, nw2_cells, nw2_fold, nw_fold, rg_cells, hle, qz_fold, qy_cells, vd_cells, vd0_fold, vd0_put, vd_fold, new_m, set_m, new_nx', k2, k3, w1, hw]) | (refine PCalls.use (hal) ?_; simp [-cellOK, nw2_cells, nw2_fold, nw_fold, rg_cells, hle, qz_fold, qy_cells, vd_cells, vd0_fold, vd0_put, vd_fold, new_m, set_m, new_nx', k2, k3, w1, hw]) | (refine Or.inl ⟨_, Or.inl (hal), ?_⟩; simp [-cellOK, nw2_cells, nw2_fold, nw_fold, rg_cells, hle, qz_fold, qy_cells, vd_cells, vd0_fold, vd0_put, vd_fold, new_m, set_m, new_nx', k2, k3, w1, hw]) | fail))
    · cases hw : i.holds <;> ((try (first | (with_reducible refine dops_go ?_; simp [-cellOK, nw2_cells, nw2_fold, nw_fold, rg_cells, hle, qz_fold, qy_cells, vd_cells, vd0_fold, vd0_put, vd_fold, new_m, set_m, new_nx', k2, k3, w1, hw]) | (with_reducible refine OKv_go ?_; simp [-cellOK, nw2_cells, nw2_fold, nw_fold, rg_cells, hle, qz_fold, qy_cells, vd_cells, vd0_fold, vd0_put, vd_fold, new_m, set_m, new_nx', k2, k3, w1, hw]) | (with_reducible refine OKr_go ?_; simp [-cellOK, nw2_cells, nw2_fold, nw_fold, rg_cells, hle, qz_fold, qy_cells, vd_cells, vd0_fold, vd0_put, vd_fold, new_m, set_m, new_nx', k2, k3, w1, hw]))); repeat' (first | refine awp_seq ?_ | refine awp_block ?_ | (refine awp_skip ?_; try simp) | (refine awp_exit ?_; try simp) | (refine awp_ret ?_; try simp) | (refine retP_same (by simp) ?_; simp) | (refine retP_no (by simp) (by simp [noIds]) (by repeat (first | assumption | exact Ext.refl _ | refine ext_new' ?_ | refine Ext.setF ?_ (by first | assumption | (simp [new_nx', St.set, fresh_none]; done) | exact ext_fresh (by assumption)))) ?_; simp [-cellOK, nw2_cells, nw2_fold, nw_fold, rg_cells, hle, qz_fold, qy_cells, vd_cells, vd0_fold, vd0_put, vd_fold, new_m, set_m, new_nx', k2, k3, w1, hw, new_m, set_m, new_nx']) | (refine awp_reg ?_; simp [-cellOK, nw2_cells, nw2_fold, nw_fold, rg_cells, hle, qz_fold, qy_cells, vd_cells, vd0_fold, vd0_put, vd_fold, new_m, set_m, new_nx', k2, k3, w1, hw]) | (refine awp_drawT (fun _ => false) mixed (by decide +kernel) ?_; simp [-cellOK, nw2_cells, nw2_fold, nw_fold, rg_cells, hle, qz_fold, qy_cells, vd_cells, vd0_fold, vd0_put, vd_fold, new_m, set_m, new_nx', k2, k3, w1, hw]) | (refine guarded_split ?_ ?_ <;> (intro hg; simp only [hg]; simp [-cellOK, nw2_cells, nw2_fold, nw_fold, rg_cells, hle, qz_fold, qy_cells, vd_cells, vd0_fold, vd0_put, vd_fold, new_m, set_m, new_nx', k2, k3, w1, hw])) | (apply awp_cond_t; focus (simp [-cellOK, nw2_cells, nw2_fold, nw_fold, rg_cells, hle, qz_fold, qy_cells, vd_cells, vd0_fold, vd0_put, vd_fold, new_m, set_m, new_nx', k2, k3, w1, hw]; done)) | (apply awp_cond_f; focus (simp [-cellOK, nw2_cells, nw2_fold, nw_fold, rg_cells, hle, qz_fold, qy_cells, vd_cells, vd0_fold, vd0_put, vd_fold, new_m, set_m, new_nx', k2, k3, w1, hw]; done)) | (refine awp_cond ?_; simp [-cellOK, nw2_cells, nw2_fold, nw_fold, rg_cells, hle, qz_fold, qy_cells, vd_cells, vd0_fold, vd0_put, vd_fold, new_m, set_m, new_nx', k2, k3, w1, hw]; refine ⟨?_, ?_⟩ <;> intro hc) | (refine awp_drawT isCallO mixed (by decide +kernel) ?_; simp [-cellOK, nw2_cells, nw2_fold, nw_fold, rg_cells, hle, qz_fold, qy_cells, vd_cells, vd0_fold, vd0_put, vd_fold, new_m, set_m, new_nx', k2, k3, w1, hw]) | (refine PCalls.use (hfit) ?_; simp [-cellOK, nw2_cells, nw2_fold, nw_fold, rg_cells, hle, qz_fold, qy_cells, vd_cells, vd0_fold, vd0_put, vd_fold, new_m, set_m, new_nx', k2, k3, w1, hw]) | (refine Or.inl ⟨_, Or.inl (hfit), ?_⟩; simp [-cellOK, nw2_cells, nw2_fold, nw_fold, rg_cells, hle, qz_fold, qy_cells, vd_cells, vd0_fold, vd0_put, vd_fold, new_m, set_m, new_nx', k2, k3, w1, hw]) | (refine PCalls.use (h1) ?_; simp [-cellOK, nw2_cells, nw2_fold, nw_fold, rg_cells, hle, qz_fold, qy_cells, vd_cells, vd0_fold, vd0_put, vd_fold, new_m, set_m, new_nx', k2, k3, w1, hw]) | (refine Or.inl ⟨_, Or.inl (h1), ?_⟩; simp [-cellOK, nw2_cells, nw2_fold, nw_fold, rg_cells, hle, qz_fold, qy_cells, vd_cells, vd0_fold, vd0_put, vd_fold, new_m, set_m, new_nx', k2, k3, w1, hw]) | (refine PCalls.use (h2) ?_; simp [-cellOK, nw2_cells, nw2_fold, nw_fold, rg_cells, hle, qz_fold, qy_cells, vd_cells, vd0_fold, vd0_put, vd_fold, new_m, set_m, new_nx', k2, k3, w1, hw]) | (refine Or.inl ⟨_, Or.inl (h2), ?_⟩; simp [-cellOK, nw2_cells, nw2_fold, nw_fold, rg_cells, hle, qz_fold, qy_cells, vd_cells, vd0_fold, vd0_put, vd_fold, new_m, set_m, new_nx', k2, k3, w1, hw]) | (refine PCalls.use (h3) ?_; simp [-cellOK, nw2_cells, nw2_fold, nw_fold, rg_cells, hle, qz_fold, qy_cells, vd_cells, vd0_fold, vd0_put, vd_fold, new_m, set_m, new_nx', k2, k3, w1, hw]) | (refine Or.inl ⟨_, Or.inl (h3), ?_⟩; simp [-cellOK, nw2_cells, nw2_fold, nw_fold, rg_cells, hle, qz_fold, qy_cells, vd_cells, vd0_fold, vd0_put, vd_fold, new_m, set_m, new_nx', k2, k3, w1, hw]) | (refine PCalls.use (h4) ?_; simp [-cellOK, nw2_cells, nw2_fold, nw_fold, rg_cells, hle, qz_fold, qy_cells, vd_cells, vd0_fold, vd0_put, vd_fold, new_m, set_m, new_nx', k2, k3, w1, hw]) | (refine Or.inl ⟨_, Or.inl (h4), ?_⟩; simp [-cellOK, nw2_cells, nw2_fold, nw_fold, rg_cells, hle, qz_fold, qy_cells, vd_cells, vd0_fold, vd0_put, vd_fold, new_m, set_m, new_nx', k2, k3, w1, hw]) | (refine PCalls.use (h5) ?_; simp [-cellOK, nw2_cells, nw2_fold, nw_fold, rg_cells, hle, qz_fold, qy_cells, vd_cells, vd0_fold, vd0_put, vd_fold, new_m, set_m, new_nx', k2, k3, w1, hw]) | (refine Or.inl ⟨_, Or.inl (h5), ?_⟩; simp [-cellOK, nw2_cells, nw2_fold, nw_fold, rg_cells, hle, qz_fold, qy_cells, vd_cells, vd0_fold, vd0_put, vd_fold, new_m, set_m, new_nx', k2, k3, w1, hw]) | (refine PCalls.use (hal) ?_; simp [-cellOK, nw2_cells, nw2_fold, nw_fold, rg_cells, hle, qz_fold, qy_cells, vd_cells, vd0_fold, vd0_put, vd_fold, new_m, set_m, new_nx', k2, k3, w1, hw]) | (refine Or.inl ⟨_, Or.inl (hal), ?_⟩; simp [-cellOK, nw2_cells, nw2_fold, nw_fold, rg_cells, hle, qz_fold, qy_cells, vd_cells, vd0_fold, vd0_put, vd_fold, new_m, set_m, new_nx', k2, k3, w1, hw]) | fail))
  · rcases k3 with k3 | ⟨k3, w1⟩ | ⟨k3, w1⟩
    · cases hz : z.holds <;> ((try (first | (with_reducible refine dops_go ?_; simp [-cellOK, nw2_cells, nw2_fold, nw_fold, rg_cells, hle, qz_fold, qy_cells, vd_cells, vd0_fold, vd0_put, vd_fold, new_m, set_m, new_nx', k2, k3, y1, y2, y3, hz]) | (with_reducible refine OKv_go ?_; simp [-cellOK, nw2_cells, nw2_fold, nw_fold, rg_cells, hle, qz_fold, qy_cells, vd_cells, vd0_fold, vd0_put, vd_fold, new_m, set_m, new_nx', k2, k3, y1, y2, y3, hz]) | (with_reducible refine OKr_go ?_; simp [-cellOK, nw2_cells, nw2_fold, nw_fold, rg_cells, hle, qz_fold, qy_cells, vd_cells, vd0_fold, vd0_put, vd_fold, new_m, set_m, new_nx', k2, k3, y1, y2, y3, hz]))); repeat' (first | refine awp_seq ?_ | refine awp_block ?_ | (refine awp_skip ?_; try simp) | (refine awp_exit ?_; try simp) | (refine awp_ret ?_; try simp) | (refine retP_same (by simp) ?_; simp) | (refine retP_no (by simp) (by simp [noIds]) (by repeat (first | assumption | exact Ext.refl _ | refine ext_new' ?_ | refine Ext.setF ?_ (by first | assumption | (simp [new_nx', St.set, fresh_none]; done) | exact ext_fresh (by assumption)))) ?_; simp [-cellOK, nw2_cells, nw2_fold, nw_fold, rg_cells, hle, qz_fold, qy_cells, vd_cells, vd0_fold, vd0_put, vd_fold, new_m, set_m, new_nx', k2, k3, y1, y2, y3, hz, new_m, set_m, new_nx']) | (refine awp_reg ?_; simp [-cellOK, nw2_cells, nw2_fold, nw_fold, rg_cells, hle, qz_fold, qy_cells, vd_cells, vd0_fold, vd0_put, vd_fold, new_m, set_m, new_nx', k2, k3, y1, y2, y3, hz]) | (refine awp_drawT (fun _ => false) mixed (by decide +kernel) ?_; simp [-cellOK, nw2_cells, nw2_fold, nw_fold, rg_cells, hle, qz_fold, qy_cells, vd_cells, vd0_fold, vd0_put, vd_fold, new_m, set_m, new_nx', k2, k3, y1, y2, y3, hz]) | (refine guarded_split ?_ ?_ <;> (intro hg; simp only [hg]; simp [-cellOK, nw2_cells, nw2_fold, nw_fold, rg_cells, hle, qz_fold, qy_cells, vd_cells, vd0_fold, vd0_put, vd_fold, new_m, set_m, new_nx', k2, k3, y1, y2, y3, hz])) | (apply awp_cond_t; focus (simp [-cellOK, nw2_cells, nw2_fold, nw_fold, rg_cells, hle, qz_fold, qy_cells, vd_cells, vd0_fold, vd0_put, vd_fold, new_m, set_m, new_nx', k2, k3, y1, y2, y3, hz]; done)) | (apply awp_cond_f; focus (simp [-cellOK, nw2_cells, nw2_fold, nw_fold, rg_cells, hle, qz_fold, qy_cells, vd_cells, vd0_fold, vd0_put, vd_fold, new_m, set_m, new_nx', k2, k3, y1, y2, y3, hz]; done)) | (refine awp_cond ?_; simp [-cellOK, nw2_cells, nw2_fold, nw_fold, rg_cells, hle, qz_fold, qy_cells, vd_cells, vd0_fold, vd0_put, vd_fold, new_m, set_m, new_nx', k2, k3, y1, y2, y3, hz]; refine ⟨?_, ?_⟩ <;> intro hc) | (refine awp_drawT isCallO mixed (by decide +kernel) ?_; simp [-cellOK, nw2_cells, nw2_fold, nw_fold, rg_cells, hle, qz_fold, qy_cells, vd_cells, vd0_fold, vd0_put, vd_fold, new_m, set_m, new_nx', k2, k3, y1, y2, y3, hz]) | (refine PCalls.use (hfit) ?_; simp [-cellOK, nw2_cells, nw2_fold, nw_fold, rg_cells, hle, qz_fold, qy_cells, vd_cells, vd0_fold, vd0_put, vd_fold, new_m, set_m, new_nx', k2, k3, y1, y2, y3, hz]) | (refine Or.inl ⟨_, Or.inl (hfit), ?_⟩; simp [-cellOK, nw2_cells, nw2_fold, nw_fold, rg_cells, hle, qz_fold, qy_cells, vd_cells, vd0_fold, vd0_put, vd_fold, new_m, set_m, new_nx', k2, k3, y1, y2, y3, hz]) | (refine PCalls.use (h1) ?_; simp [-cellOK, nw2_cells, nw2_fold, nw_fold, rg_cells, hle, qz_fold, qy_cells, vd_cells, vd0_fold, vd0_put, vd_fold, new_m, set_m, new_nx', k2, k3, y1, y2, y3, hz]) | (refine Or.inl ⟨_, Or.inl (h1), ?_⟩; simp [-cellOK, nw2_cells, nw2_fold, nw_fold, rg_cells, hle, qz_fold, qy_cells, vd_cells, vd0_fold, vd0_put, vd_fold, new_m, set_m, new_nx', k2, k3, y1, y2, y3, hz]) | (refine PCalls.use (h2) ?_; simp [-cellOK, nw2_cells, nw2_fold, nw_fold, rg_cells, hle, qz_fold, qy_cells, vd_cells, vd0_fold, vd0_put, vd_fold, new_m, set_m, new_nx', k2, k3, y1, y2, y3, hz]) | (refine Or.inl ⟨_, Or.inl (h2), ?_⟩; simp [-cellOK, nw2_cells, nw2_fold, nw_fold, rg_cells, hle, qz_fold, qy_cells, vd_cells, vd0_fold, vd0_put, vd_fold, new_m, set_m, new_nx', k2, k3, y1, y2, y3, hz]) | (refine PCalls.use (h3) ?_; simp [-cellOK, nw2_cells, nw2_fold, nw_fold, rg_cells, hle, qz_fold, qy_cells, vd_cells, vd0_fold, vd0_put, vd_fold, new_m, set_m, new_nx', k2, k3, y1, y2, y3, hz]) | (refine Or.inl ⟨_, Or.inl (h3), ?_⟩; simp [-cellOK, nw2_cells, nw2_fold, nw_fold, rg_cells, hle, qz_fold, qy_cells, vd_cells, vd0_fold, vd0_put, vd_fold, new_m, set_m, new_nx', k2, k3, y1, y2, y3, hz]) | (refine PCalls.use (h4) ?_; simp [-cellOK, nw2_cells, nw2_fold, nw_fold, rg_cells, hle, qz_fold, qy_cells, vd_cells, vd0_fold, vd0_put, vd_fold, new_m, set_m, new_nx', k2, k3, y1, y2, y3, hz]) | (refine Or.inl ⟨_, Or.inl (h4), ?_⟩; simp [-cellOK, nw2_cells, nw2_fold, nw_fold, rg_cells, hle, qz_fold, qy_cells, vd_cells, vd0_fold, vd0_put, vd_fold, new_m, set_m, new_nx', k2, k3, y1, y2, y3, hz]) | (refine PCalls.use (h5) ?_; simp [-cellOK, nw2_cells, nw2_fold, nw_fold, rg_cells, hle, qz_fold, qy_cells, vd_cells, vd0_fold, vd0_put, vd_fold, new_m, set_m, new_nx', k2, k3, y1, y2, y3, hz]) | (refine Or.inl ⟨_, Or.inl (h5), ?_⟩; simp [-cellOK, nw2_cells, nw2_fold, nw_fold, rg_cells, hle, qz_fold, qy_cells, vd_cells, vd0_fold, vd0_put, vd_fold, new_m, set_m, new_nx', k2, k3, y1, y2, y3, hz]) | (refine PCalls.use (hal) ?_; simp [-cellOK, nw2_cells, nw2_fold, nw_fold, rg_cells, hle, qz_fold, qy_cells, vd_cells, vd0_fold, vd0_put, vd_fold, new_m, set_m, new_nx', k2, k3, y1, y2, y3, hz]) | (refine Or.inl ⟨_, Or.inl (hal), ?_⟩; simp [-cellOK, nw2_cells, nw2_fold, nw_fold, rg_cells, hle, qz_fold, qy_cells, vd_cells, vd0_fold, vd0_put, vd_fold, new_m, set_m, new_nx', k2, k3, y1, y2, y3, hz]) | fail))
    · cases hz : z.holds <;> cases hw : w.holds <;> ((try (first | (with_reducible refine dops_go ?_; simp [-cellOK, nw2_cells, nw2_fold, nw_fold, rg_cells, hle, qz_fold, qy_cells, vd_cells, vd0_fold, vd0_put, vd_fold, new_m, set_m, new_nx', k2, k3, w1, hw, y1, y2, y3, hz]) | (with_reducible refine OKv_go ?_; simp [-cellOK, nw2_cells, nw2_fold, nw_fold, rg_cells, hle, qz_fold, qy_cells, vd_cells, vd0_fold, vd0_put, vd_fold, new_m, set_m, new_nx', k2, k3, w1, hw, y1, y2, y3, hz]) | (with_reducible refine OKr_go ?_; simp [-cellOK, nw2_cells, nw2_fold, nw_fold, rg_cells, hle, qz_fold, qy_cells, vd_cells, vd0_fold, vd0_put, vd_fold, new_m, set_m, new_nx', k2, k3, w1, hw, y1, y2, y3, hz]))); repeat' (first | refine awp_seq ?_ | refine awp_block ?_ | (refine awp_skip ?_; try simp) | (refine awp_exit ?_; try simp) | (refine awp_ret ?_; try simp) | (refine retP_same (by simp) ?_; simp) | (refine retP_no (by simp) (by simp [noIds]) (by repeat (first | assumption | exact Ext.refl _ | refine ext_new' ?_ | refine Ext.setF ?_ (by first | assumption | (simp [new_nx', St.set, fresh_none]; done) | exact ext_fresh (by assumption)))) ?_; simp [-cellOK, nw2_cells, nw2_fold, nw_fold, rg_cells, hle, qz_fold, qy_cells, vd_cells, vd0_fold, vd0_put, vd_fold, new_m, set_m, new_nx', k2, k3, w1, hw, y1, y2, y3, hz, new_m, set_m, new_nx']) | (refine awp_reg ?_; simp [-cellOK, nw2_cells, nw2_fold, nw_fold, rg_cells, hle, qz_fold, qy_cells, vd_cells, vd0_fold, vd0_put, vd_fold, new_m, set_m, new_nx', k2, k3, w1, hw, y1, y2, y3, hz]) | (refine awp_drawT (fun _ => false) mixed (by decide +kernel) ?_; simp [-cellOK, nw2_cells, nw2_fold, nw_fold, rg_cells, hle, qz_fold, qy_cells, vd_cells, vd0_fold, vd0_put, vd_fold, new_m, set_m, new_nx', k2, k3, w1, hw, y1, y2, y3, hz]) | (refine guarded_split ?_ ?_ <;> (intro hg; simp only [hg]; simp [-cellOK, nw2_cells, nw2_fold, nw_fold, rg_cells, hle, qz_fold, qy_cells, vd_cells, vd0_fold, vd0_put, vd_fold, new_m, set_m, new_nx', k2, k3, w1, hw, y1, y2, y3, hz])) | (apply awp_cond_t; focus (simp [-cellOK, nw2_cells, nw2_fold, nw_fold, rg_cells, hle, qz_fold, qy_cells, vd_cells, vd0_fold, vd0_put, vd_fold, new_m, set_m, new_nx', k2, k3, w1, hw, y1, y2, y3, hz]; done)) | (apply awp_cond_f; focus (simp [-cellOK, nw2_cells, nw2_fold, nw_fold, rg_cells, hle, qz_fold, qy_cells, vd_cells, vd0_fold, vd0_put, vd_fold, new_m, set_m, new_nx', k2, k3, w1, hw, y1, y2, y3, hz]; done)) | (refine awp_cond ?_; simp [-cellOK, nw2_cells, nw2_fold, nw_fold, rg_cells, hle, qz_fold, qy_cells, vd_cells, vd0_fold, vd0_put, vd_fold, new_m, set_m, new_nx', k2, k3, w1, hw, y1, y2, y3, hz]; refine ⟨?_, ?_⟩ <;> intro hc) | (refine awp_drawT isCallO mixed (by decide +kernel) ?_; simp [-cellOK, nw2_cells, nw2_fold, nw_fold, rg_cells, hle, qz_fold, qy_cells, vd_cells, vd0_fold, vd0_put, vd_fold, new_m, set_m, new_nx', k2, k3, w1, hw, y1, y2, y3, hz]) | (refine PCalls.use (hfit) ?_; simp [-cellOK, nw2_cells, nw2_fold, nw_fold, rg_cells, hle, qz_fold, qy_cells, vd_cells, vd0_fold, vd0_put, vd_fold, new_m, set_m, new_nx', k2, k3, w1, hw, y1, y2, y3, hz]) | (refine Or.inl ⟨_, Or.inl (hfit), ?_⟩; simp [-cellOK, nw2_cells, nw2_fold, nw_fold, rg_cells, hle, qz_fold, qy_cells, vd_cells, vd0_fold, vd0_put, vd_fold, new_m, set_m, new_nx', k2, k3, w1, hw, y1, y2, y3, hz]) | (refine PCalls.use (h1) ?_; simp [-cellOK, nw2_cells, nw2_fold, nw_fold, rg_cells, hle, qz_fold, qy_cells, vd_cells, vd0_fold, vd0_put, vd_fold, new_m, set_m, new_nx', k2, k3, w1, hw, y1, y2, y3, hz]) | (refine Or.inl ⟨_, Or.inl (h1), ?_⟩; simp [-cellOK, nw2_cells, nw2_fold, nw_fold, rg_cells, hle, qz_fold, qy_cells, vd_cells, vd0_fold, vd0_put, vd_fold, new_m, set_m, new_nx', k2, k3, w1, hw, y1, y2, y3, hz]) | (refine PCalls.use (h2) ?_; simp [-cellOK, nw2_cells, nw2_fold, nw_fold, rg_cells, hle, qz_fold, qy_cells, vd_cells, vd0_fold, vd0_put, vd_fold, new_m, set_m, new_nx', k2, k3, w1, hw, y1, y2, y3, hz]) | (refine Or.inl ⟨_, Or.inl (h2), ?_⟩; simp [-cellOK, nw2_cells, nw2_fold, nw_fold, rg_cells, hle, qz_fold, qy_cells, vd_cells, vd0_fold, vd0_put, vd_fold, new_m, set_m, new_nx', k2, k3, w1, hw, y1, y2, y3, hz]) | (refine PCalls.use (h3) ?_; simp [-cellOK, nw2_cells, nw2_fold, nw_fold, rg_cells, hle, qz_fold, qy_cells, vd_cells, vd0_fold, vd0_put, vd_fold, new_m, set_m, new_nx', k2, k3, w1, hw, y1, y2, y3, hz]) | (refine Or.inl ⟨_, Or.inl (h3), ?_⟩; simp [-cellOK, nw2_cells, nw2_fold, nw_fold, rg_cells, hle, qz_fold, qy_cells, vd_cells, vd0_fold, vd0_put, vd_fold, new_m, set_m, new_nx', k2, k3, w1, hw, y1, y2, y3, hz]) | (refine PCalls.use (h4) ?_; simp [-cellOK, nw2_cells, nw2_fold, nw_fold, rg_cells, hle, qz_fold, qy_cells, vd_cells, vd0_fold, vd0_put, vd_fold, new_m, set_m, new_nx', k2, k3, w1, hw, y1, y2, y3, hz]) | (refine Or.inl ⟨_, Or.inl (h4), ?_⟩; simp [-cellOK, nw2_cells, nw2_fold, nw_fold, rg_cells, hle, qz_fold, qy_cells, vd_cells, vd0_fold, vd0_put, vd_fold, new_m, set_m, new_nx', k2, k3, w1, hw, y1, y2, y3, hz]) | (refine PCalls.use (h5) ?_; simp [-cellOK, nw2_cells, nw2_fold, nw_fold, rg_cells, hle, qz_fold, qy_cells, vd_cells, vd0_fold, vd0_put, vd_fold, new_m, set_m, new_nx', k2, k3, w1, hw, y1, y2, y3, hz]) | (refine Or.inl ⟨_, Or.inl (h5), ?_⟩; simp [-cellOK, nw2_cells, nw2_fold, nw_fold, rg_cells, hle, qz_fold, qy_cells, vd_cells, vd0_fold, vd0_put, vd_fold, new_m, set_m, new_nx', k2, k3, w1, hw, y1, y2, y3, hz]) | (refine PCalls.use (hal) ?_; simp [-cellOK, nw2_cells, nw2_fold, nw_fold, rg_cells, hle, qz_fold, qy_cells, vd_cells, vd0_fold, vd0_put, vd_fold, new_m, set_m, new_nx', k2, k3, w1, hw, y1, y2, y3, hz]) | (refine Or.inl ⟨_, Or.inl (hal), ?_⟩; simp [-cellOK, nw2_cells, nw2_fold, nw_fold, rg_cells, hle, qz_fold, qy_cells, vd_cells, vd0_fold, vd0_put, vd_fold, new_m, set_m, new_nx', k2, k3, w1, hw, y1, y2, y3, hz]) | fail))
    · cases hz : z.holds <;> cases hw : i.holds <;> ((try (first | (with_reducible refine dops_go ?_; simp [-cellOK, nw2_cells, nw2_fold, nw_fold, rg_cells, hle, qz_fold, qy_cells, vd_cells, vd0_fold, vd0_put, vd_fold, new_m, set_m, new_nx', k2, k3, w1, hw, y1, y2, y3, hz]) | (with_reducible refine OKv_go ?_; simp [-cellOK, nw2_cells, nw2_fold, nw_fold, rg_cells, hle, qz_fold, qy_cells, vd_cells, vd0_fold, vd0_put, vd_fold, new_m, set_m, new_nx', k2, k3, w1, hw, y1, y2, y3, hz]) | (with_reducible refine OKr_go ?_; simp [-cellOK, nw2_cells, nw2_fold, nw_fold, rg_cells, hle, qz_fold, qy_cells, vd_cells, vd0_fold, vd0_put, vd_fold, new_m, set_m, new_nx', k2, k3, w1, hw, y1, y2, y3, hz]))); repeat' (first | refine awp_seq ?_ | refine awp_block ?_ | (refine awp_skip ?_; try simp) | (refine awp_exit ?_; try simp) | (refine awp_ret ?_; try simp) | (refine retP_same (by simp) ?_; simp) | (refine retP_no (by simp) (by simp [noIds]) (by repeat (first | assumption | exact Ext.refl _ | refine ext_new' ?_ | refine Ext.setF ?_ (by first | assumption | (simp [new_nx', St.set, fresh_none]; done) | exact ext_fresh (by assumption)))) ?_; simp [-cellOK, nw2_cells, nw2_fold, nw_fold, rg_cells, hle, qz_fold, qy_cells, vd_cells, vd0_fold, vd0_put, vd_fold, new_m, set_m, new_nx', k2, k3, w1, hw, y1, y2, y3, hz, new_m, set_m, new_nx']) | (refine awp_reg ?_; simp [-cellOK, nw2_cells, nw2_fold, nw_fold, rg_cells, hle, qz_fold, qy_cells, vd_cells, vd0_fold, vd0_put, vd_fold, new_m, set_m, new_nx', k2, k3, w1, hw, y1, y2, y3, hz]) | (refine awp_drawT (fun _ => false) mixed (by decide +kernel) ?_; simp [-cellOK, nw2_cells, nw2_fold, nw_fold, rg_cells, hle, qz_fold, qy_cells, vd_cells, vd0_fold, vd0_put, vd_fold, new_m, set_m, new_nx', k2, k3, w1, hw, y1, y2, y3, hz]) | (refine guarded_split ?_ ?_ <;> (intro hg; simp only [hg]; simp [-cellOK, nw2_cells, nw2_fold, nw_fold, rg_cells, hle, qz_fold, qy_cells, vd_cells, vd0_fold, vd0_put, vd_fold, new_m, set_m, new_nx', k2, k3, w1, hw, y1, y2, y3, hz])) | (apply awp_cond_t; focus (simp [-cellOK, nw2_cells, nw2_fold, nw_fold, rg_cells, hle, qz_fold, qy_cells, vd_cells, vd0_fold, vd0_put, vd_fold, new_m, set_m, new_nx', k2, k3, w1, hw, y1, y2, y3, hz]; done)) | (apply awp_cond_f; focus (simp [-cellOK, nw2_cells, nw2_fold, nw_fold, rg_cells, hle, qz_fold, qy_cells, vd_cells, vd0_fold, vd0_put, vd_fold, new_m, set_m, new_nx', k2, k3, w1, hw, y1, y2, y3, hz]; done)) | (refine awp_cond ?_; simp [-cellOK, nw2_cells, nw2_fold, nw_fold, rg_cells, hle, qz_fold, qy_cells, vd_cells, vd0_fold, vd0_put, vd_fold, new_m, set_m, new_nx', k2, k3, w1, hw, y1, y2, y3, hz]; refine ⟨?_, ?_⟩ <;> intro hc) | (refine awp_drawT isCallO mixed (by decide +kernel) ?_; simp [-cellOK, nw2_cells, nw2_fold, nw_fold, rg_cells, hle, qz_fold, qy_cells, vd_cells, vd0_fold, vd0_put, vd_fold, new_m, set_m, new_nx', k2, k3, w1, hw, y1, y2, y3, hz]) | (refine PCalls.use (hfit) ?_; simp [-cellOK, nw2_cells, nw2_fold, nw_fold, rg_cells, hle, qz_fold, qy_cells, vd_cells, vd0_fold, vd0_put, vd_fold, new_m, set_m, new_nx', k2, k3, w1, hw, y1, y2, y3, hz]) | (refine Or.inl ⟨_, Or.inl (hfit), ?_⟩; simp [-cellOK, nw2_cells, nw2_fold, nw_fold, rg_cells, hle, qz_fold, qy_cells, vd_cells, vd0_fold, vd0_put, vd_fold, new_m, set_m, new_nx', k2, k3, w1, hw, y1, y2, y3, hz]) | (refine PCalls.use (h1) ?_; simp [-cellOK, nw2_cells, nw2_fold, nw_fold, rg_cells, hle, qz_fold, qy_cells, vd_cells, vd0_fold, vd0_put, vd_fold, new_m, set_m, new_nx', k2, k3, w1, hw, y1, y2, y3, hz]) | (refine Or.inl ⟨_, Or.inl (h1), ?_⟩; simp [-cellOK, nw2_cells, nw2_fold, nw_fold, rg_cells, hle, qz_fold, qy_cells, vd_cells, vd0_fold, vd0_put, vd_fold, new_m, set_m, new_nx', k2, k3, w1, hw, y1, y2, y3, hz]) | (refine PCalls.use (h2) ?_; simp [-cellOK, nw2_cells, nw2_fold, nw_fold, rg_cells, hle, qz_fold, qy_cells, vd_cells, vd0_fold, vd0_put, vd_fold, new_m, set_m, new_nx', k2, k3, w1, hw, y1, y2, y3, hz]) | (refine Or.inl ⟨_, Or.inl (h2), ?_⟩; simp [-cellOK, nw2_cells, nw2_fold, nw_fold, rg_cells, hle, qz_fold, qy_cells, vd_cells, vd0_fold, vd0_put, vd_fold, new_m, set_m, new_nx', k2, k3, w1, hw, y1, y2, y3, hz]) | (refine PCalls.use (h3) ?_; simp [-cellOK, nw2_cells, nw2_fold, nw_fold, rg_cells, hle, qz_fold, qy_cells, vd_cells, vd0_fold, vd0_put, vd_fold, new_m, set_m, new_nx', k2, k3, w1, hw, y1, y2, y3, hz]) | (refine Or.inl ⟨_, Or.inl (h3), ?_⟩; simp [-cellOK, nw2_cells, nw2_fold, nw_fold, rg_cells, hle, qz_fold, qy_cells, vd_cells, vd0_fold, vd0_put, vd_fold, new_m, set_m, new_nx', k2, k3, w1, hw, y1, y2, y3, hz]) | (refine PCalls.use (h4) ?_; simp [-cellOK, nw2_cells, nw2_fold, nw_fold, rg_cells, hle, qz_fold, qy_cells, vd_cells, vd0_fold, vd0_put, vd_fold, new_m, set_m, new_nx', k2, k3, w1, hw, y1, y2, y3, hz]) | (refine Or.inl ⟨_, Or.inl (h4), ?_⟩; simp [-cellOK, nw2_cells, nw2_fold, nw_fold, rg_cells, hle, qz_fold, qy_cells, vd_cells, vd0_fold, vd0_put, vd_fold, new_m, set_m, new_nx', k2, k3, w1, hw, y1, y2, y3, hz]) | (refine PCalls.use (h5) ?_; simp [-cellOK, nw2_cells, nw2_fold, nw_fold, rg_cells, hle, qz_fold, qy_cells, vd_cells, vd0_fold, vd0_put, vd_fold, new_m, set_m, new_nx', k2, k3, w1, hw, y1, y2, y3, hz]) | (refine Or.inl ⟨_, Or.inl (h5), ?_⟩; simp [-cellOK, nw2_cells, nw2_fold, nw_fold, rg_cells, hle, qz_fold, qy_cells, vd_cells, vd0_fold, vd0_put, vd_fold, new_m, set_m, new_nx', k2, k3, w1, hw, y1, y2, y3, hz]) | (refine PCalls.use (hal) ?_; simp [-cellOK, nw2_cells, nw2_fold, nw_fold, rg_cells, hle, qz_fold, qy_cells, vd_cells, vd0_fold, vd0_put, vd_fold, new_m, set_m, new_nx', k2, k3, w1, hw, y1, y2, y3, hz]) | (refine Or.inl ⟨_, Or.inl (hal), ?_⟩; simp [-cellOK, nw2_cells, nw2_fold, nw_fold, rg_cells, hle, qz_fold, qy_cells, vd_cells, vd0_fold, vd0_put, vd_fold, new_m, set_m, new_nx', k2, k3, w1, hw, y1, y2, y3, hz]) | fail))
end Go.Proofs.Ytanimmdlgmkmkaa.Av
