/- Probe: ProbeOwn Part 10 of 15: AvB7, AvB8, AvB9, AvBA, AvBB, AvBE, AvBF, AvZ1, AvZ2, AvZ4, AvZ5, AvZ6, AvZ3, AvP3, AvN35. -/
import Derived.Test.YtanimmdlgmkmkaaPo6
import Derived.Test.YtanimmdlgmkmkaaPo7
import Derived.Test.YtanimmdlgmkmkaaPo9

/- Probes: the two functions of a unit. -/
namespace Go.Proofs.Ytanimmdlgmkmkaa.Av
open Go
set_option linter.unusedSimpArgs false
set_option linter.unusedVariables false
set_option maxRecDepth 100000
set_option maxHeartbeats 4000000
set_option pp.maxSteps 600

theorem Kq.one {ip : Id} {v v' : AV} {σ τ : St} (h : Kp ip v v' σ τ) : Kq ip v nilAV v' nilAV σ τ := ⟨fun i o n n1 n2 e => ⟨(h.1 i o n n1 e).1, (h.1 i o n n1 e).2, nilAV_at i⟩, h.2⟩
theorem Kq.two {ip : Id} {v w w' : AV} {σ τ : St} (h : Kp ip w w' σ τ) : Kq ip v w v w' σ τ := ⟨fun i o n n1 n2 e => ⟨(h.1 i o n n2 e).1, n1, (h.1 i o n n2 e).2⟩, h.2⟩
theorem Kq.trans {ip : Id} {v w v' w' v'' w'' : AV} {ρ σ τ : St} (h : Kq ip v w v' w' ρ σ) (k : Kq ip v' w' v'' w'' σ τ) : Kq ip v w v'' w'' ρ τ :=
  ⟨fun i o n n1 n2 e => by obtain ⟨a, b, c⟩ := h.1 i o n n1 n2 e; exact k.1 i o n b c a, fun s => Nat.le_trans (h.2 s) (k.2 s)⟩
theorem Kq.ex {ip : Id} {v w v' w' : AV} {ρ σ τ : St} (h : Kq ip v w v' w' ρ σ) (k : Ex ip σ τ) : Kq ip v w v' w' ρ τ :=
  ⟨fun i o n n1 n2 e => by obtain ⟨a, b, c⟩ := h.1 i o n n1 n2 e; exact ⟨k.1 i o n a, b, c⟩, fun s => Nat.le_trans (h.2 s) (k.2 s)⟩
theorem own_at {ip : Id} (hsz : ip.sz = 34) {σ : St} {v : AV} {es : List AV} (h : OwnB σ v es) : ¬ isAt v ip := by
  rcases h with ⟨_, rfl⟩ | ⟨j, rfl, hj, _⟩
  · rintro ⟨l, e⟩; cases e
  · rintro ⟨l, e⟩
    injection e with e; subst e; rw [hsz] at hj; cases hj

theorem pfirst_calls {ip : Id} (hsz : ip.sz = 34) {X : PB} (hX : OkB X) {p : List Int} {d : Int} {v w : AV} {σ : St} (h : PbR ip X (.one p d) v w σ) {K : AV → St → Prop}
    (hK : ∀ τ v' w', PbR ip (stepP X (.one p d)).1 (stepP X (.one p d)).2 v' w' τ → Kq ip v w v' w' σ τ → K (.tup []) τ) : ACalls Try.prog 99 [.rp ip 0 0] σ K := by
  obtain ⟨rfl, hB, s, ss, r, rs, x, hS, hP, hw, m⟩ := h
  have hS' : intsAV X.S false = .sl 1 (iAV s :: ss.map iAV) false := by rw [hS]; rfl
  have hvis := fun K kf kt => visit1_calls (K := K) hsz hX.n hP hw m hB kf kt
  have ht := Way.tlen hX.n r.lo s
  simp only [stepP, hS, hP] at hK
  simp only [pbOb, pbRow] at m
  refine abody Try.func99 rfl (N := 35) rfl rfl (by simp) ?_
  (try ((first | with_reducible refine dops_go ?_ | with_reducible refine OKv_go ?_ | with_reducible refine OKr_go ?_); simp [-cellOK, m, nw_fold])); repeat' (first | refine awp_seq ?_ | refine awp_block ?_ | (refine awp_skip ?_; try simp) | (refine awp_exit ?_; try simp) | (refine awp_ret ?_; try simp) | ((first | refine awp_reg ?_ | refine awp_drawT (fun _ => false) mixed (by decide +kernel) ?_ | refine awp_drawT isCallO mixed (by decide +kernel) ?_); simp [-cellOK, m, nw_fold]) | (refine guarded_split ?_ ?_ <;> (intro hg; simp only [hg]; simp [-cellOK, m, nw_fold])) | (apply awp_cond_t; focus (simp [-cellOK, m, nw_fold]; done)) | (apply awp_cond_f; focus (simp [-cellOK, m, nw_fold]; done)) | (refine awp_cond ?_; simp [-cellOK, m, nw_fold]; refine ⟨?_, ?_⟩ <;> intro hc) | fail)
  refine hvis _ (fun τ v' he mτ hB' hKp => ?_) (fun τ v' he mτ hB' hKp => ?_)
  · rw [if_pos he] at hK
    have m1 := mτ
    simp only [pbOb, pbRow] at m1
    by_cases k5 : X.q.kind = 5
    · rw [if_pos k5] at hK
      (try ((first | with_reducible refine dops_go ?_ | with_reducible refine OKv_go ?_ | with_reducible refine OKr_go ?_); simp [-cellOK, m1, k5, hS', iAV, set_m])); repeat' (first | refine awp_seq ?_ | refine awp_block ?_ | (refine awp_skip ?_; try simp) | (refine awp_exit ?_; try simp) | (refine awp_ret ?_; try simp) | ((first | refine awp_reg ?_ | refine awp_drawT (fun _ => false) mixed (by decide +kernel) ?_ | refine awp_drawT isCallO mixed (by decide +kernel) ?_); simp [-cellOK, m1, k5, hS', iAV, set_m]) | (refine guarded_split ?_ ?_ <;> (intro hg; simp only [hg]; simp [-cellOK, m1, k5, hS', iAV, set_m])) | (apply awp_cond_t; focus (simp [-cellOK, m1, k5, hS', iAV, set_m]; done)) | (apply awp_cond_f; focus (simp [-cellOK, m1, k5, hS', iAV, set_m]; done)) | (refine awp_cond ?_; simp [-cellOK, m1, k5, hS', iAV, set_m]; refine ⟨?_, ?_⟩ <;> intro hc) | fail)
      refine retK_of (.inl rfl) (x := .tup []) (by simp) (hK _ v' nilAV ⟨nil_own _, fun j _ => nilAV_at j, k5, s, ss, r, rs, 0, hS, hP, Way.start _ _ _, hB'.ex (own_at hsz hB') ?_, ?_⟩ ((Kq.one hKp).ex ?_))
      · exact ((Ex.refl _ _).set _).set _
      · simp [set_m, m1, pbOb, pbRow, secondAV, z0, hS', iAV, k5]
      · exact ((Ex.refl _ _).set _).set _
    · rw [if_neg k5] at hK
      have k5' := eq_false k5
      (try ((first | with_reducible refine dops_go ?_ | with_reducible refine OKv_go ?_ | with_reducible refine OKr_go ?_); simp [-cellOK, m1, k5', hS', iAV, set_m])); repeat' (first | refine awp_seq ?_ | refine awp_block ?_ | (refine awp_skip ?_; try simp) | (refine awp_exit ?_; try simp) | (refine awp_ret ?_; try simp) | ((first | refine awp_reg ?_ | refine awp_drawT (fun _ => false) mixed (by decide +kernel) ?_ | refine awp_drawT isCallO mixed (by decide +kernel) ?_); simp [-cellOK, m1, k5', hS', iAV, set_m]) | (refine guarded_split ?_ ?_ <;> (intro hg; simp only [hg]; simp [-cellOK, m1, k5', hS', iAV, set_m])) | (apply awp_cond_t; focus (simp [-cellOK, m1, k5', hS', iAV, set_m]; done)) | (apply awp_cond_f; focus (simp [-cellOK, m1, k5', hS', iAV, set_m]; done)) | (refine awp_cond ?_; simp [-cellOK, m1, k5', hS', iAV, set_m]; refine ⟨?_, ?_⟩ <;> intro hc) | fail)
      refine over_calls hsz hX (u := noTk) mτ hB' (nil_own _) ht (by decide) ⟨rfl, rfl⟩ hS hP (fun j _ => nilAV_at j) fun τ2 v2 w2 h2 k2 => ?_
      (try ((first | with_reducible refine dops_go ?_ | with_reducible refine OKv_go ?_ | with_reducible refine OKr_go ?_); simp [-cellOK])); repeat' (first | refine awp_seq ?_ | refine awp_block ?_ | (refine awp_skip ?_; try simp) | (refine awp_exit ?_; try simp) | (refine awp_ret ?_; try simp) | ((first | refine awp_reg ?_ | refine awp_drawT (fun _ => false) mixed (by decide +kernel) ?_ | refine awp_drawT isCallO mixed (by decide +kernel) ?_); simp [-cellOK]) | (refine guarded_split ?_ ?_ <;> (intro hg; simp only [hg]; simp [-cellOK])) | (apply awp_cond_t; focus (simp [-cellOK]; done)) | (apply awp_cond_f; focus (simp [-cellOK]; done)) | (refine awp_cond ?_; simp [-cellOK]; refine ⟨?_, ?_⟩ <;> intro hc) | fail)
      exact retK_of (.inl rfl) (x := .tup []) (by simp) (hK _ v2 w2 h2 ((Kq.one hKp).trans k2))
  · rw [if_neg he] at hK
    (try ((first | with_reducible refine dops_go ?_ | with_reducible refine OKv_go ?_ | with_reducible refine OKr_go ?_); simp [-cellOK])); repeat' (first | refine awp_seq ?_ | refine awp_block ?_ | (refine awp_skip ?_; try simp) | (refine awp_exit ?_; try simp) | (refine awp_ret ?_; try simp) | ((first | refine awp_reg ?_ | refine awp_drawT (fun _ => false) mixed (by decide +kernel) ?_ | refine awp_drawT isCallO mixed (by decide +kernel) ?_); simp [-cellOK]) | (refine guarded_split ?_ ?_ <;> (intro hg; simp only [hg]; simp [-cellOK])) | (apply awp_cond_t; focus (simp [-cellOK]; done)) | (apply awp_cond_f; focus (simp [-cellOK]; done)) | (refine awp_cond ?_; simp [-cellOK]; refine ⟨?_, ?_⟩ <;> intro hc) | fail)
    exact retK_of (.inl rfl) (x := .tup []) (by simp) (hK _ v' nilAV ⟨rfl, hB', s, ss, r, rs, 4, hS, hP, hw.on (fun h => he (.inl h)) (Classical.byContradiction fun h => he (.inr h)), mτ⟩ (Kq.one hKp))

theorem psecond_calls {ip : Id} (hsz : ip.sz = 34) {X : PB} (hX : OkB X) {p : List Int} {d : Int} {v w : AV} {σ : St} (h : PbR ip X (.two p d) v w σ) {K : AV → St → Prop}
    (hK : ∀ τ v' w', PbR ip (stepP X (.two p d)).1 (stepP X (.two p d)).2 v' w' τ → Kq ip v w v' w' σ τ → K (.tup []) τ) : ACalls Try.prog 130 [.rp ip 0 0] σ K := by
  obtain ⟨hB, hdis, k5, s, ss, r, rs, x, hS, hP, hw, hv, m⟩ := h
  have hvis := fun K kf kt => visit2_calls (K := K) hsz hX.m hP hw m hB kf kt
  have ht := Way.tlen hX.n r.lo s
  have hu := Way.tlen hX.m r.lo s
  simp only [stepP, hS, hP] at hK
  simp only [pbOb, pbRow] at m
  refine abody Try.func130 rfl (N := 14) rfl rfl (by simp) ?_
  (try ((first | with_reducible refine dops_go ?_ | with_reducible refine OKv_go ?_ | with_reducible refine OKr_go ?_); simp [-cellOK, m, nw_fold])); repeat' (first | refine awp_seq ?_ | refine awp_block ?_ | (refine awp_skip ?_; try simp) | (refine awp_exit ?_; try simp) | (refine awp_ret ?_; try simp) | ((first | refine awp_reg ?_ | refine awp_drawT (fun _ => false) mixed (by decide +kernel) ?_ | refine awp_drawT isCallO mixed (by decide +kernel) ?_); simp [-cellOK, m, nw_fold]) | (refine guarded_split ?_ ?_ <;> (intro hg; simp only [hg]; simp [-cellOK, m, nw_fold])) | (apply awp_cond_t; focus (simp [-cellOK, m, nw_fold]; done)) | (apply awp_cond_f; focus (simp [-cellOK, m, nw_fold]; done)) | (refine awp_cond ?_; simp [-cellOK, m, nw_fold]; refine ⟨?_, ?_⟩ <;> intro hc) | fail)
  have hv' : ∀ {τ w'}, Kp ip w w' σ τ → OwnB τ v ((traceF X.N s r.lo).path.map iAV) ∧ ∀ j, isAt v j → ¬ isAt w' j := by
    intro τ w' hKp
    rcases hv with ⟨e1, e2⟩ | ⟨j, e, hj, hm⟩
    · exact ⟨.inl ⟨e1, e2⟩, fun j hj => by rw [e2] at hj; exact absurd hj (nilAV_at j)⟩
    · have a1 : isAt v j := ⟨_, e⟩
      obtain ⟨b1, b2⟩ := hKp.1 j _ (fun q => by rw [q, hsz] at hj; cases hj) (hdis j a1) hm
      refine ⟨.inr ⟨j, e, hj, b1⟩, fun i ⟨l, hi⟩ => ?_⟩
      rw [e] at hi
      injection hi with hi; subst hi; exact b2
  refine hvis _ (fun τ w' he mτ hB' hKp => ?_) (fun τ w' he mτ hB' hKp => ?_)
  · rw [if_pos he] at hK
    obtain ⟨hv1, hd1⟩ := hv' hKp
    (try ((first | with_reducible refine dops_go ?_ | with_reducible refine OKv_go ?_ | with_reducible refine OKr_go ?_); simp [-cellOK])); repeat' (first | refine awp_seq ?_ | refine awp_block ?_ | (refine awp_skip ?_; try simp) | (refine awp_exit ?_; try simp) | (refine awp_ret ?_; try simp) | ((first | refine awp_reg ?_ | refine awp_drawT (fun _ => false) mixed (by decide +kernel) ?_ | refine awp_drawT isCallO mixed (by decide +kernel) ?_); simp [-cellOK]) | (refine guarded_split ?_ ?_ <;> (intro hg; simp only [hg]; simp [-cellOK])) | (apply awp_cond_t; focus (simp [-cellOK]; done)) | (apply awp_cond_f; focus (simp [-cellOK]; done)) | (refine awp_cond ?_; simp [-cellOK]; refine ⟨?_, ?_⟩ <;> intro hc) | fail)
    refine over_calls hsz hX mτ hv1 hB' ht hu ⟨rfl, rfl⟩ hS hP hd1 fun τ2 v2 w2 h2 k2 => ?_
    (try ((first | with_reducible refine dops_go ?_ | with_reducible refine OKv_go ?_ | with_reducible refine OKr_go ?_); simp [-cellOK])); repeat' (first | refine awp_seq ?_ | refine awp_block ?_ | (refine awp_skip ?_; try simp) | (refine awp_exit ?_; try simp) | (refine awp_ret ?_; try simp) | ((first | refine awp_reg ?_ | refine awp_drawT (fun _ => false) mixed (by decide +kernel) ?_ | refine awp_drawT isCallO mixed (by decide +kernel) ?_); simp [-cellOK]) | (refine guarded_split ?_ ?_ <;> (intro hg; simp only [hg]; simp [-cellOK])) | (apply awp_cond_t; focus (simp [-cellOK]; done)) | (apply awp_cond_f; focus (simp [-cellOK]; done)) | (refine awp_cond ?_; simp [-cellOK]; refine ⟨?_, ?_⟩ <;> intro hc) | fail)
    exact retK_of (.inl rfl) (x := .tup []) (by simp) (hK _ v2 w2 h2 ((Kq.two hKp).trans k2))
  · rw [if_neg he] at hK
    obtain ⟨hv1, hd1⟩ := hv' hKp
    (try ((first | with_reducible refine dops_go ?_ | with_reducible refine OKv_go ?_ | with_reducible refine OKr_go ?_); simp [-cellOK])); repeat' (first | refine awp_seq ?_ | refine awp_block ?_ | (refine awp_skip ?_; try simp) | (refine awp_exit ?_; try simp) | (refine awp_ret ?_; try simp) | ((first | refine awp_reg ?_ | refine awp_drawT (fun _ => false) mixed (by decide +kernel) ?_ | refine awp_drawT isCallO mixed (by decide +kernel) ?_); simp [-cellOK]) | (refine guarded_split ?_ ?_ <;> (intro hg; simp only [hg]; simp [-cellOK])) | (apply awp_cond_t; focus (simp [-cellOK]; done)) | (apply awp_cond_f; focus (simp [-cellOK]; done)) | (refine awp_cond ?_; simp [-cellOK]; refine ⟨?_, ?_⟩ <;> intro hc) | fail)
    exact retK_of (.inl rfl) (x := .tup []) (by simp) (hK _ v w' ⟨hB', hd1, k5, s, ss, r, rs, 4, hS, hP, hw.on (fun h => he (.inl h)) (Classical.byContradiction fun h => he (.inr h)), hv1, mτ⟩ (Kq.two hKp))
end Go.Proofs.Ytanimmdlgmkmkaa.Av


/- Probes: done, and the verdict. -/
namespace Go.Proofs.Ytanimmdlgmkmkaa.Av
open Go
set_option linter.unusedSimpArgs false
set_option linter.unusedVariables false
set_option maxRecDepth 100000
set_option maxHeartbeats 4000000
set_option pp.maxSteps 600

theorem ownClone_calls {σ : St} {v : AV} {l : List Int} (h : OwnB σ v (l.map iAV)) (hl : l.length < 2 ^ 44) {K : AV → St → Prop} (hK : ∀ τ, Ext σ τ → K (intsAV l false) τ) : ACalls Try.prog 54 [v] σ K := by
  rcases h with ⟨e1, rfl⟩ | ⟨j, rfl, hj, m⟩
  · have e : l = [] := by simpa using e1
    subst e
    refine ACalls.args (bs := [intsAV [] false]) (fun S vs h => ?_) ((intClone_calls [] false (by decide)).use (hK _ (Ext.refl _)))
    simp only [LRel, intsAV, List.map_nil] at h ⊢
    obtain ⟨x, xs, e, h1, h2⟩ := h
    exact ⟨x, xs, e, weaker_sl _ _ h1, h2⟩
  · refine abody Try.func54 rfl (N := 8) rfl rfl (by simp) ?_
    (try ((first | with_reducible refine dops_go ?_ | with_reducible refine OKv_go ?_ | with_reducible refine OKr_go ?_); simp [-cellOK, -opAppend])); repeat' (first | refine awp_seq ?_ | refine awp_block ?_ | (refine awp_skip ?_; try simp) | (refine awp_exit ?_; try simp) | (refine awp_ret ?_; try simp) | ((first | refine awp_reg ?_ | refine awp_drawT (fun _ => false) mixed (by decide +kernel) ?_ | refine awp_drawT isCallO mixed (by decide +kernel) ?_); simp [-cellOK, -opAppend]) | (refine guarded_split ?_ ?_ <;> (intro hg; simp only [hg]; simp [-cellOK, -opAppend])) | (apply awp_cond_t; focus (simp [-cellOK, -opAppend]; done)) | (apply awp_cond_f; focus (simp [-cellOK, -opAppend]; done)) | (refine awp_cond ?_; simp [-cellOK, -opAppend]; refine ⟨?_, ?_⟩ <;> intro hc) | fail)
    refine okr_append slt22 (σ0 := σ) (es := []) (OwnL.of rfl (by simp) (fresh_none _ _ _) rfl) (Ext.new _ _ _ _) (ys := l.map iAV) (by simp [new_up _ _ m, List.take_of_length_le]) (.inr hj) (ok_ints _) (by simp at hl ⊢; omega) ?_
    intro v1 τ1 hO1 hE1 _ _
    rw [List.nil_append] at hO1
    (try ((first | with_reducible refine dops_go ?_ | with_reducible refine OKv_go ?_ | with_reducible refine OKr_go ?_); simp [-cellOK, -opAppend])); repeat' (first | refine awp_seq ?_ | refine awp_block ?_ | (refine awp_skip ?_; try simp) | (refine awp_exit ?_; try simp) | (refine awp_ret ?_; try simp) | ((first | refine awp_reg ?_ | refine awp_drawT (fun _ => false) mixed (by decide +kernel) ?_ | refine awp_drawT isCallO mixed (by decide +kernel) ?_); simp [-cellOK, -opAppend]) | (refine guarded_split ?_ ?_ <;> (intro hg; simp only [hg]; simp [-cellOK, -opAppend])) | (apply awp_cond_t; focus (simp [-cellOK, -opAppend]; done)) | (apply awp_cond_f; focus (simp [-cellOK, -opAppend]; done)) | (refine awp_cond ?_; simp [-cellOK, -opAppend]; refine ⟨?_, ?_⟩ <;> intro hc) | fail)
    exact retK_own (.inr rfl) (by simp) hO1 hE1 fun τ hE => hK τ hE
theorem done_calls {ip : Id} {X : PB} {d : Int} {v : AV} {t : Int × Pt} {w : AV} {u : Int × Pt} {nx : AV} {dn : Bool} {r : VC} {σ : St} (m : σ.m ip = some (pbOb X d v t w u nx dn r)) {K : AV → St → Prop}
    (hK : K (.raw (.bool dn)) σ) : ACalls Try.prog 30 [.rp ip 0 0] σ K := by
  simp only [pbOb, pbRow] at m
  refine abody Try.func30 rfl (N := 11) rfl rfl (by simp) ?_
  (try ((first | with_reducible refine dops_go ?_ | with_reducible refine OKv_go ?_ | with_reducible refine OKr_go ?_); simp [-cellOK, m])); repeat' (first | refine awp_seq ?_ | refine awp_block ?_ | (refine awp_skip ?_; try simp) | (refine awp_exit ?_; try simp) | (refine awp_ret ?_; try simp) | ((first | refine awp_reg ?_ | refine awp_drawT (fun _ => false) mixed (by decide +kernel) ?_ | refine awp_drawT isCallO mixed (by decide +kernel) ?_); simp [-cellOK, m]) | (refine guarded_split ?_ ?_ <;> (intro hg; simp only [hg]; simp [-cellOK, m])) | (apply awp_cond_t; focus (simp [-cellOK, m]; done)) | (apply awp_cond_f; focus (simp [-cellOK, m]; done)) | (refine awp_cond ?_; simp [-cellOK, m]; refine ⟨?_, ?_⟩ <;> intro hc) | fail)
  exact retK_of (.inr rfl) (by simp) hK
theorem verdict_calls {ip : Id} (hsz : ip.sz = 34) {X : PB} {V : Vd} {v w : AV} {σ : St} (h : PbR ip X (.fin V) v w σ) {K : AV → St → Prop}
    (hK : ∀ τ, Ext σ τ → K (.tup [vdAV V false, .raw (.bool true)]) τ) : ACalls Try.prog 27 [.rp ip 0 0] σ K := by
  obtain ⟨rfl, hB, hl, d, v', t, w', u, nx, m⟩ := h
  obtain ⟨vc, vo⟩ := hB.cells
  refine abody Try.func27 rfl (N := 20) rfl rfl (by simp) ?_
  (try ((first | with_reducible refine dops_go ?_ | with_reducible refine OKv_go ?_ | with_reducible refine OKr_go ?_); simp [-cellOK, set_m, new_m])); repeat' (first | refine awp_seq ?_ | refine awp_block ?_ | (refine awp_skip ?_; try simp) | (refine awp_exit ?_; try simp) | (refine awp_ret ?_; try simp) | ((first | refine awp_reg ?_ | refine awp_drawT (fun _ => false) mixed (by decide +kernel) ?_ | refine awp_drawT isCallO mixed (by decide +kernel) ?_); simp [-cellOK, set_m, new_m]) | (refine guarded_split ?_ ?_ <;> (intro hg; simp only [hg]; simp [-cellOK, set_m, new_m])) | (apply awp_cond_t; focus (simp [-cellOK, set_m, new_m]; done)) | (apply awp_cond_f; focus (simp [-cellOK, set_m, new_m]; done)) | (refine awp_cond ?_; simp [-cellOK, set_m, new_m]; refine ⟨?_, ?_⟩ <;> intro hc) | fail)
  refine done_calls (X := X) (new_up _ _ m) ?_
  have m1 := m
  simp only [pbOb, pbRow] at m1
  have hne : ∀ a b, (ip = ⟨a, b, 7⟩) = False := fun a b => eq_false fun e => by rw [e] at hsz; cases hsz
  (try ((first | with_reducible refine dops_go ?_ | with_reducible refine OKv_go ?_ | with_reducible refine OKr_go ?_); simp [-cellOK, set_m, new_m, new_nx', m1, vc, vo, hne])); repeat' (first | refine awp_seq ?_ | refine awp_block ?_ | (refine awp_skip ?_; try simp) | (refine awp_exit ?_; try simp) | (refine awp_ret ?_; try simp) | ((first | refine awp_reg ?_ | refine awp_drawT (fun _ => false) mixed (by decide +kernel) ?_ | refine awp_drawT isCallO mixed (by decide +kernel) ?_); simp [-cellOK, set_m, new_m, new_nx', m1, vc, vo, hne]) | (refine guarded_split ?_ ?_ <;> (intro hg; simp only [hg]; simp [-cellOK, set_m, new_m, new_nx', m1, vc, vo, hne])) | (apply awp_cond_t; focus (simp [-cellOK, set_m, new_m, new_nx', m1, vc, vo, hne]; done)) | (apply awp_cond_f; focus (simp [-cellOK, set_m, new_m, new_nx', m1, vc, vo, hne]; done)) | (refine awp_cond ?_; simp [-cellOK, set_m, new_m, new_nx', m1, vc, vo, hne]; refine ⟨?_, ?_⟩ <;> intro hc) | fail)
  have hES : Ext σ (St.set (St.new (St.new σ 2 7 (.buf [vd0AV])) 4 7 (.buf [vd0AV])) ⟨4, σ.nx 4, 7⟩ (.buf [.agg [.raw (.bool V.holds), .raw (.int .i64 V.src), .raw (.int .u32 V.addr), v, .raw (.int .i64 V.tr.out), .raw (.int .i64 V.tr.last.dev), .raw (.int .i64 V.tr.last.port)]])) := (by repeat (first | assumption | exact Ext.refl _ | refine ext_new' ?_ | refine Ext.setF ?_ (by first | assumption | (simp [new_nx', St.set, fresh_none]; done) | exact ext_fresh (by assumption))))
  simp only [vd0AV] at hES
  generalize hST : St.set _ _ _ = ST at hES ⊢
  have g2 : ST.m ⟨2, σ.nx 2, 7⟩ = some (.buf [vd0AV]) := by rw [← hST]; simp [set_m, new_m, vd0AV]
  have g4 : ST.m ⟨4, σ.nx 4, 7⟩ = some (.buf [.agg [.raw (.bool V.holds), .raw (.int .i64 V.src), .raw (.int .u32 V.addr), v, .raw (.int .i64 V.tr.out), .raw (.int .i64 V.tr.last.dev), .raw (.int .i64 V.tr.last.port)]]) := by rw [← hST]; simp [set_m, new_m, new_nx']
  clear hST
  have f2 : σ.m ⟨2, σ.nx 2, 7⟩ = none := fresh_none _ _ _
  have f4 : σ.m ⟨4, σ.nx 4, 7⟩ = none := fresh_none _ _ _
  refine ownClone_calls (hB.up fun i o _ e => hES.1 i o e) (by omega) fun τ hE => ?_
  have g2 := hE.1 _ _ g2
  have g4 := hE.1 _ _ g4
  have hEτ := hES.trans hE
  clear hE hES
  simp only [vd0AV] at g2
  (try ((first | with_reducible refine dops_go ?_ | with_reducible refine OKv_go ?_ | with_reducible refine OKr_go ?_); simp [-cellOK, set_m, g2, g4, intsAV])); repeat' (first | refine awp_seq ?_ | refine awp_block ?_ | (refine awp_skip ?_; try simp) | (refine awp_exit ?_; try simp) | (refine awp_ret ?_; try simp) | ((first | refine awp_reg ?_ | refine awp_drawT (fun _ => false) mixed (by decide +kernel) ?_ | refine awp_drawT isCallO mixed (by decide +kernel) ?_); simp [-cellOK, set_m, g2, g4, intsAV]) | (refine guarded_split ?_ ?_ <;> (intro hg; simp only [hg]; simp [-cellOK, set_m, g2, g4, intsAV])) | (apply awp_cond_t; focus (simp [-cellOK, set_m, g2, g4, intsAV]; done)) | (apply awp_cond_f; focus (simp [-cellOK, set_m, g2, g4, intsAV]; done)) | (refine awp_cond ?_; simp [-cellOK, set_m, g2, g4, intsAV]; refine ⟨?_, ?_⟩ <;> intro hc) | fail)
  exact retK_of (x := .tup [vdAV V false, .raw (.bool true)]) (.inr rfl) (by simp [set_m, g2, g4, vdAV, intsAV]) (hK _ ((hEτ.setF f4).setF f2))
end Go.Proofs.Ytanimmdlgmkmkaa.Av


/- Probes: a step of any fuel. -/
namespace Go.Proofs.Ytanimmdlgmkmkaa.Av
open Go
set_option linter.unusedSimpArgs false
set_option linter.unusedVariables false
set_option maxRecDepth 100000
set_option maxHeartbeats 4000000
set_option pp.maxSteps 600

def Ph.done : Ph → Bool
  | .fin _ => true
  | _ => false
def Ph.nx (ip : Id) : Ph → AV
  | .one _ _ => firstAV ip
  | _ => secondAV ip
theorem PbR.ob {ip : Id} {X : PB} {ph : Ph} {v w : AV} {σ : St} (h : PbR ip X ph v w σ) : ∃ d v1 t w1 u nx r, σ.m ip = some (pbOb X d v1 t w1 u nx ph.done r) ∧ (ph.done = false → nx = ph.nx ip) := by
  cases ph with
  | one p d =>
    obtain ⟨rfl, hB, s, ss, r, rs, x, hS, hP, hw, m⟩ := h
    exact ⟨_, _, _, _, _, _, _, m, fun _ => rfl⟩
  | two p d =>
    obtain ⟨hB, hdis, k5, s, ss, r, rs, x, hS, hP, hw, hv, m⟩ := h
    exact ⟨_, _, _, _, _, _, _, m, fun _ => rfl⟩
  | fin V =>
    obtain ⟨rfl, hB, hl, d, v', t, w', u, nx, m⟩ := h
    exact ⟨_, _, _, _, _, _, _, m, fun h => by cases h⟩
theorem unit_calls {ip : Id} (hsz : ip.sz = 34) {X : PB} (hX : OkB X) {ph : Ph} (hd : ph.done = false) {v w : AV} {σ : St} (h : PbR ip X ph v w σ) {f : FuncId} (hf : ph.nx ip = .fn (.func f) [.rp ip 0 0] []) {K : AV → St → Prop}
    (hK : ∀ τ v' w', PbR ip (stepP X ph).1 (stepP X ph).2 v' w' τ → Kq ip v w v' w' σ τ → K (.tup []) τ) : ACalls Try.prog f [.rp ip 0 0] σ K := by
  cases ph with
  | one p d =>
    injection hf with e1
    injection e1 with e1
    subst e1
    exact pfirst_calls hsz hX h hK
  | two p d =>
    injection hf with e1
    injection e1 with e1
    subst e1
    exact psecond_calls hsz hX h hK
  | fin V => cases hd
theorem Ph.nx_fn (ip : Id) (ph : Ph) : ∃ f, ph.nx ip = .fn (.func f) [.rp ip 0 0] [] := by
  cases ph
  · exact ⟨_, rfl⟩
  · exact ⟨_, rfl⟩
  · exact ⟨_, rfl⟩
theorem OkB.over {X : PB} (h : OkB X) (t u : Tk) : OkB (overP X t u).1 := by
  unfold overP
  have hs := h.sl
  have hp := h.pl
  split
  · rename_i s ss r rs hS hP
    rw [hS, List.length_cons] at hs
    rw [hP, List.length_cons] at hp
    split
    · exact h
    · split
      · exact ⟨h.n, h.m, h.a, h.al, h.sl, by show List.length (_ :: _) < _; simp only [List.length_cons] at *; omega⟩
      · split
        · exact ⟨h.n, h.m, h.a, h.al, by simp, h.al⟩
        · exact ⟨h.n, h.m, h.a, h.al, by show List.length (_ :: _) < _; simp only [List.length_cons] at *; omega, h.al⟩
  · exact h
theorem OkB.step {X : PB} (h : OkB X) (ph : Ph) : OkB (stepP X ph).1 := by
  unfold stepP
  split
  · split
    · split
      · split
        · exact h
        · exact h.over _ _
      · exact h
    · exact h
  · split
    · split
      · exact h.over _ _
      · exact h
    · exact h
  · exact h
/-- So many units, or as many as there are. -/
def goP : Nat → PB → Ph → (PB × Ph) × Nat
  | 0, X, ph => ((X, ph), 0)
  | k + 1, X, ph => if ph.done = true then ((X, ph), 0) else ((goP k (stepP X ph).1 (stepP X ph).2).1, (goP k (stepP X ph).1 (stepP X ph).2).2 + 1)
theorem goP_done (k : Nat) {X : PB} {ph : Ph} (h : ph.done = true) : goP k X ph = ((X, ph), 0) := by
  cases k with
  | zero => rfl
  | succ k => rw [goP, if_pos h]
theorem stepG_calls {ip : Id} (hsz : ip.sz = 34) {X : PB} (hX : OkB X) {ph : Ph} (hd : ph.done = false) {v w : AV} {σ : St} (h : PbR ip X ph v w σ) {f : Int} (hf : 1 ≤ f) (hf2 : f < 2 ^ 63) {K : AV → St → Prop}
    (hK : ∀ τ v' w', PbR ip (goP f.toNat X ph).1.1 (goP f.toNat X ph).1.2 v' w' τ → Kq ip v w v' w' σ τ → K (.tup [.raw (.int .i64 (goP f.toNat X ph).2), .raw (.int .i64 0)]) τ) :
    ACalls Try.prog 26 [.rp ip 0 0, .raw (.int .i64 f)] σ K := by
  obtain ⟨d, v1, t, w1, u, nx, r, m, hn⟩ := h.ob
  rw [hd] at m
  simp only [pbOb, pbRow] at m
  have f1 : (f < 1) = False := eq_false (by omega)
  refine abody Try.func26 rfl (N := 37) rfl rfl (by simp) ?_
  (try ((first | with_reducible refine dops_go ?_ | with_reducible refine OKv_go ?_ | with_reducible refine OKr_go ?_); simp [-cellOK, m, f1])); repeat' (first | refine awp_seq ?_ | refine awp_block ?_ | (refine awp_skip ?_; try simp) | (refine awp_exit ?_; try simp) | (refine awp_ret ?_; try simp) | ((first | refine awp_reg ?_ | refine awp_drawT (fun _ => false) mixed (by decide +kernel) ?_ | refine awp_drawT isCallO mixed (by decide +kernel) ?_); simp [-cellOK, m, f1]) | (refine guarded_split ?_ ?_ <;> (intro hg; simp only [hg]; simp [-cellOK, m, f1])) | (apply awp_cond_t; focus (simp [-cellOK, m, f1]; done)) | (apply awp_cond_f; focus (simp [-cellOK, m, f1]; done)) | (refine awp_cond ?_; simp [-cellOK, m, f1]; refine ⟨?_, ?_⟩ <;> intro hc) | fail)
  refine awp_loopH (fun n' B τ => B 0 = .rp ip 0 0 ∧ B 1 = .raw (.int .i64 f) ∧ ∃ k : Nat, B 6 = .raw (.int .i64 k) ∧ k ≤ f.toNat ∧ n' = f.toNat - k ∧ ∃ X' ph' v' w', OkB X' ∧ PbR ip X' ph' v' w' τ ∧ Kq ip v w v' w' σ τ ∧ goP f.toNat X ph = ((goP (f.toNat - k) X' ph').1, (goP (f.toNat - k) X' ph').2 + k)) f.toNat ?_ ?_
  · refine ⟨by simp, by simp, 0, by simp, by omega, by omega, X, ph, v, w, hX, h, ⟨fun i o n n1 n2 e => ⟨e, n1, n2⟩, fun _ => Nat.le_refl _⟩, by simp⟩
  · intro n' B τ hI I1 hI1
    obtain ⟨b0, b1, k, b6, hk, hn', X', ph', v', w', hX', h', hq, hg⟩ := hI
    obtain ⟨d', v2, t', w2, u', nx', r', m', hnx⟩ := h'.ob
    simp only [pbOb, pbRow] at m'
    by_cases hlt : k < f.toNat
    · have hlt' : ((k : Int) < f) = True := eq_true (by omega)
      cases hd' : ph'.done with
      | true =>
        rw [hd'] at m'
        (try ((first | with_reducible refine dops_go ?_ | with_reducible refine OKv_go ?_ | with_reducible refine OKr_go ?_); simp [-cellOK, b0, b1, b6, m', hlt'])); repeat' (first | refine awp_seq ?_ | refine awp_block ?_ | (refine awp_skip ?_; try simp) | (refine awp_exit ?_; try simp) | (refine awp_ret ?_; try simp) | ((first | refine awp_reg ?_ | refine awp_drawT (fun _ => false) mixed (by decide +kernel) ?_ | refine awp_drawT isCallO mixed (by decide +kernel) ?_); simp [-cellOK, b0, b1, b6, m', hlt']) | (refine guarded_split ?_ ?_ <;> (intro hg; simp only [hg]; simp [-cellOK, b0, b1, b6, m', hlt'])) | (apply awp_cond_t; focus (simp [-cellOK, b0, b1, b6, m', hlt']; done)) | (apply awp_cond_f; focus (simp [-cellOK, b0, b1, b6, m', hlt']; done)) | (refine awp_cond ?_; simp [-cellOK, b0, b1, b6, m', hlt']; refine ⟨?_, ?_⟩ <;> intro hc) | fail)
        rw [goP_done _ hd'] at hg
        rw [hg] at hK
        refine retK_of (.inr rfl) (x := .tup [.raw (.int .i64 k), .raw (.int .i64 0)]) (by simp) ?_
        have := hK τ v' w' h' hq
        simpa using this
      | false =>
        rw [hd'] at m'
        obtain ⟨fn, hfn⟩ := ph'.nx_fn ip
        have hnx := (hnx hd').trans hfn
        subst hnx
        have w1 : IntKind.i64.wrap ((k : Int) + 1) = ((k + 1 : Nat) : Int) := by rw [wrap64 (by omega) (by omega)]; omega
        (try ((first | with_reducible refine dops_go ?_ | with_reducible refine OKv_go ?_ | with_reducible refine OKr_go ?_); simp [-cellOK, b0, b1, b6, m', hlt'])); repeat' (first | refine awp_seq ?_ | refine awp_block ?_ | (refine awp_skip ?_; try simp) | (refine awp_exit ?_; try simp) | (refine awp_ret ?_; try simp) | ((first | refine awp_reg ?_ | refine awp_drawT (fun _ => false) mixed (by decide +kernel) ?_ | refine awp_drawT isCallO mixed (by decide +kernel) ?_); simp [-cellOK, b0, b1, b6, m', hlt']) | (refine guarded_split ?_ ?_ <;> (intro hg; simp only [hg]; simp [-cellOK, b0, b1, b6, m', hlt'])) | (apply awp_cond_t; focus (simp [-cellOK, b0, b1, b6, m', hlt']; done)) | (apply awp_cond_f; focus (simp [-cellOK, b0, b1, b6, m', hlt']; done)) | (refine awp_cond ?_; simp [-cellOK, b0, b1, b6, m', hlt']; refine ⟨?_, ?_⟩ <;> intro hc) | fail)
        refine unit_calls hsz hX' hd' h' hfn fun τ2 v2 w2 h2 k2 => ?_
        (try ((first | with_reducible refine dops_go ?_ | with_reducible refine OKv_go ?_ | with_reducible refine OKr_go ?_); simp [-cellOK, b0, b1, b6, w1])); repeat' (first | refine awp_seq ?_ | refine awp_block ?_ | (refine awp_skip ?_; try simp) | (refine awp_exit ?_; try simp) | (refine awp_ret ?_; try simp) | ((first | refine awp_reg ?_ | refine awp_drawT (fun _ => false) mixed (by decide +kernel) ?_ | refine awp_drawT isCallO mixed (by decide +kernel) ?_); simp [-cellOK, b0, b1, b6, w1]) | (refine guarded_split ?_ ?_ <;> (intro hg; simp only [hg]; simp [-cellOK, b0, b1, b6, w1])) | (apply awp_cond_t; focus (simp [-cellOK, b0, b1, b6, w1]; done)) | (apply awp_cond_f; focus (simp [-cellOK, b0, b1, b6, w1]; done)) | (refine awp_cond ?_; simp [-cellOK, b0, b1, b6, w1]; refine ⟨?_, ?_⟩ <;> intro hc) | fail)
        refine hI1 (f.toNat - (k + 1)) _ _ (by omega) ⟨by simp [b0], by simp [b1], k + 1, by simp, by omega, rfl, _, _, v2, w2, hX'.step ph', h2, hq.trans k2, ?_⟩
        rw [hg, show f.toNat - k = (f.toNat - (k + 1)) + 1 by omega, goP, if_neg (by simp [hd'])]
        ext1
        · rfl
        · show _ + 1 + k = _ + (k + 1); omega
    · have hlt' : ((k : Int) < f) = False := eq_false (by omega)
      (try ((first | with_reducible refine dops_go ?_ | with_reducible refine OKv_go ?_ | with_reducible refine OKr_go ?_); simp [-cellOK, b0, b1, b6, m', hlt'])); repeat' (first | refine awp_seq ?_ | refine awp_block ?_ | (refine awp_skip ?_; try simp) | (refine awp_exit ?_; try simp) | (refine awp_ret ?_; try simp) | ((first | refine awp_reg ?_ | refine awp_drawT (fun _ => false) mixed (by decide +kernel) ?_ | refine awp_drawT isCallO mixed (by decide +kernel) ?_); simp [-cellOK, b0, b1, b6, m', hlt']) | (refine guarded_split ?_ ?_ <;> (intro hg; simp only [hg]; simp [-cellOK, b0, b1, b6, m', hlt'])) | (apply awp_cond_t; focus (simp [-cellOK, b0, b1, b6, m', hlt']; done)) | (apply awp_cond_f; focus (simp [-cellOK, b0, b1, b6, m', hlt']; done)) | (refine awp_cond ?_; simp [-cellOK, b0, b1, b6, m', hlt']; refine ⟨?_, ?_⟩ <;> intro hc) | fail)
      rw [show f.toNat - k = 0 by omega] at hg
      simp only [goP] at hg
      rw [hg] at hK
      refine retK_of (.inr rfl) (x := .tup [.raw (.int .i64 k), .raw (.int .i64 0)]) (by simp) ?_
      have := hK τ v' w' h' hq
      simpa using this
/-- No fuel, or done. -/
theorem stepE_calls {ip : Id} {X : PB} {ph : Ph} {v w : AV} {σ : St} (h : PbR ip X ph v w σ) {f : Int} (hf : f < 1 ∨ ph.done = true) {K : AV → St → Prop}
    (hK : K (.tup [.raw (.int .i64 0), .raw (.int .i64 131)]) σ) :
    ACalls Try.prog 26 [.rp ip 0 0, .raw (.int .i64 f)] σ K := by
  obtain ⟨d, v1, t, w1, u, nx, r, m, hn⟩ := h.ob
  simp only [pbOb, pbRow] at m
  refine abody Try.func26 rfl (N := 37) rfl rfl (by simp) ?_
  by_cases f1 : f < 1
  · have f1 := eq_true f1
    (try ((first | with_reducible refine dops_go ?_ | with_reducible refine OKv_go ?_ | with_reducible refine OKr_go ?_); simp [-cellOK, m, f1])); repeat' (first | refine awp_seq ?_ | refine awp_block ?_ | (refine awp_skip ?_; try simp) | (refine awp_exit ?_; try simp) | (refine awp_ret ?_; try simp) | ((first | refine awp_reg ?_ | refine awp_drawT (fun _ => false) mixed (by decide +kernel) ?_ | refine awp_drawT isCallO mixed (by decide +kernel) ?_); simp [-cellOK, m, f1]) | (refine guarded_split ?_ ?_ <;> (intro hg; simp only [hg]; simp [-cellOK, m, f1])) | (apply awp_cond_t; focus (simp [-cellOK, m, f1]; done)) | (apply awp_cond_f; focus (simp [-cellOK, m, f1]; done)) | (refine awp_cond ?_; simp [-cellOK, m, f1]; refine ⟨?_, ?_⟩ <;> intro hc) | fail)
    exact retK_of (.inr rfl) (by simp) hK
  · have hd := hf.resolve_left f1
    rw [hd] at m
    have f1 := eq_false f1
    (try ((first | with_reducible refine dops_go ?_ | with_reducible refine OKv_go ?_ | with_reducible refine OKr_go ?_); simp [-cellOK, m, f1])); repeat' (first | refine awp_seq ?_ | refine awp_block ?_ | (refine awp_skip ?_; try simp) | (refine awp_exit ?_; try simp) | (refine awp_ret ?_; try simp) | ((first | refine awp_reg ?_ | refine awp_drawT (fun _ => false) mixed (by decide +kernel) ?_ | refine awp_drawT isCallO mixed (by decide +kernel) ?_); simp [-cellOK, m, f1]) | (refine guarded_split ?_ ?_ <;> (intro hg; simp only [hg]; simp [-cellOK, m, f1])) | (apply awp_cond_t; focus (simp [-cellOK, m, f1]; done)) | (apply awp_cond_f; focus (simp [-cellOK, m, f1]; done)) | (refine awp_cond ?_; simp [-cellOK, m, f1]; refine ⟨?_, ?_⟩ <;> intro hc) | fail)
    exact retK_of (.inr rfl) (by simp) hK
end Go.Proofs.Ytanimmdlgmkmkaa.Av


/- Probes: what is asked, the parts, a new probe. -/
namespace Go.Proofs.Ytanimmdlgmkmkaa.Av
open Go
set_option linter.unusedSimpArgs false
set_option linter.unusedVariables false
set_option maxRecDepth 100000
set_option maxHeartbeats 4000000
set_option pp.maxSteps 600

def askedB (n m : Nw) (q : Qy) : Bool := rightQ n q && (!decide (q.kind = 5) || decide (n.t = m.t))
theorem asked_calls (n m : Nw) (f g : Fl) (q : Qy) (hn : NwOK n) (hm : NwOK m) : PCalls Try.prog 56 [nwAV n f, nwAV m g, qyAV q] (.raw (.bool (askedB n m q))) := by
  have hr := rightQ_calls n f q
  have hs := topoSame_calls n.t m.t f g (by have := hn.ports; omega) (by have := hn.links; omega) (by have := hm.ports; omega) (by have := hm.links; omega)
  refine pbody Try.func56 rfl (N := 22) rfl rfl (by simp) (by simp [noIds]) fun σ => ?_
  repeat (refine awp_seq ?_)
  refine awp_reg ?_
  simp [-cellOK, nw_cells, qy_cells]
  generalize hA0 : put 22 _ _ _ = A0
  have d3 : A0 3 = .rp ⟨3, σ.nx 3, 3⟩ 0 0 := by rw [← hA0]; simp [new_nx']
  have d4 : A0 4 = .rp ⟨4, σ.nx 4, 3⟩ 0 0 := by rw [← hA0]; simp [new_nx']
  have d5 : A0 5 = .rp ⟨5, σ.nx 5, 7⟩ 0 0 := by rw [← hA0]; simp [new_nx']
  clear hA0
  refine awp_freeze ⟨3, σ.nx 3, 3⟩ ?_
  refine awp_freeze ⟨4, σ.nx 4, 3⟩ ?_
  refine awp_freeze ⟨5, σ.nx 5, 7⟩ ?_
  generalize hτ : St.del _ _ = τ
  generalize hA : (fun t => giveUp _ _ _) = A
  have a3 : A 3 = .pp (nwAV n f).cells 0 := by rw [← hA, ← hτ]; simp [giveUp, St.new, St.del, nw_cells, d3]
  have a4 : A 4 = .pp (nwAV m g).cells 0 := by rw [← hA, ← hτ]; simp [giveUp, St.new, St.del, nw_cells, d4]
  have a5 : A 5 = .pp (qyAV q).cells 0 := by rw [← hA, ← hτ]; simp [giveUp, St.new, St.del, nw_cells, qy_cells, d5]
  have hE : Ext σ τ := by
    rw [← hτ]
    refine ⟨fun i o h => ?_, fun s => ?_⟩
    · have q1 : i ≠ ⟨3, σ.nx 3, 3⟩ := fun e => by rw [e, fresh_none] at h; cases h
      have q2 : i ≠ ⟨4, σ.nx 4, 3⟩ := fun e => by rw [e, fresh_none] at h; cases h
      have q3 : i ≠ ⟨5, σ.nx 5, 7⟩ := fun e => by rw [e, fresh_none] at h; cases h
      simp [St.del, St.new, q1, q2, q3, h]
    · simp only [St.del, St.new]
      repeat' split
      all_goals omega
  clear hτ hA
  have htf : ∀ (N : Nw) (F : Fl), AV.agg [intsAV N.t.ports F.p, linksAV N.t.links F.l] = tpAV N.t F := fun _ _ => rfl
  unfold askedB
  cases hrb : rightQ n q with
  | false =>
    rw [hrb] at hr
    (try ((first | with_reducible refine dops_go ?_ | with_reducible refine OKv_go ?_ | with_reducible refine OKr_go ?_); simp [-cellOK, a3, a4, a5, nw_cells, nw_fold, qy_cells, qy_fold])); repeat' (first | refine awp_seq ?_ | refine awp_block ?_ | (refine awp_skip ?_; try simp) | (refine awp_exit ?_; try simp) | (refine awp_ret ?_; try simp) | (refine retP_same (by simp) ?_; simp) | (refine retP_no (by simp) (by simp [noIds]) (by repeat (first | assumption | exact Ext.refl _ | refine ext_new' ?_ | refine Ext.setF ?_ (by first | assumption | (simp [new_nx', St.set, fresh_none]; done) | exact ext_fresh (by assumption)))) ?_; simp [-cellOK, a3, a4, a5, nw_cells, nw_fold, qy_cells, qy_fold, new_m, set_m, new_nx']) | ((first | refine awp_reg ?_ | refine awp_drawT (fun _ => false) mixed (by decide +kernel) ?_ | refine awp_drawT isCallO mixed (by decide +kernel) ?_ | refine PCalls.use (hr) ?_ | refine Or.inl ⟨_, Or.inl (hr), ?_⟩); simp [-cellOK, a3, a4, a5, nw_cells, nw_fold, qy_cells, qy_fold]) | (refine guarded_split ?_ ?_ <;> (intro hg; simp only [hg]; simp [-cellOK, a3, a4, a5, nw_cells, nw_fold, qy_cells, qy_fold])) | (apply awp_cond_t; focus (simp [-cellOK, a3, a4, a5, nw_cells, nw_fold, qy_cells, qy_fold]; done)) | (apply awp_cond_f; focus (simp [-cellOK, a3, a4, a5, nw_cells, nw_fold, qy_cells, qy_fold]; done)) | (refine awp_cond ?_; simp [-cellOK, a3, a4, a5, nw_cells, nw_fold, qy_cells, qy_fold]; refine ⟨?_, ?_⟩ <;> intro hc) | fail)
  | true =>
    rw [hrb] at hr
    by_cases k5 : q.kind = 5
    · have k5' := eq_true k5
      (try ((first | with_reducible refine dops_go ?_ | with_reducible refine OKv_go ?_ | with_reducible refine OKr_go ?_); simp [-cellOK, a3, a4, a5, nw_cells, nw_fold, qy_cells, qy_fold, k5', htf])); repeat' (first | refine awp_seq ?_ | refine awp_block ?_ | (refine awp_skip ?_; try simp) | (refine awp_exit ?_; try simp) | (refine awp_ret ?_; try simp) | (refine retP_same (by simp) ?_; simp) | (refine retP_no (by simp) (by simp [noIds]) (by repeat (first | assumption | exact Ext.refl _ | refine ext_new' ?_ | refine Ext.setF ?_ (by first | assumption | (simp [new_nx', St.set, fresh_none]; done) | exact ext_fresh (by assumption)))) ?_; simp [-cellOK, a3, a4, a5, nw_cells, nw_fold, qy_cells, qy_fold, k5', htf, new_m, set_m, new_nx']) | ((first | refine awp_reg ?_ | refine awp_drawT (fun _ => false) mixed (by decide +kernel) ?_ | refine awp_drawT isCallO mixed (by decide +kernel) ?_ | refine PCalls.use (hr) ?_ | refine Or.inl ⟨_, Or.inl (hr), ?_⟩ | refine PCalls.use (hs) ?_ | refine Or.inl ⟨_, Or.inl (hs), ?_⟩); simp [-cellOK, a3, a4, a5, nw_cells, nw_fold, qy_cells, qy_fold, k5', htf]) | (refine guarded_split ?_ ?_ <;> (intro hg; simp only [hg]; simp [-cellOK, a3, a4, a5, nw_cells, nw_fold, qy_cells, qy_fold, k5', htf])) | (apply awp_cond_t; focus (simp [-cellOK, a3, a4, a5, nw_cells, nw_fold, qy_cells, qy_fold, k5', htf]; done)) | (apply awp_cond_f; focus (simp [-cellOK, a3, a4, a5, nw_cells, nw_fold, qy_cells, qy_fold, k5', htf]; done)) | (refine awp_cond ?_; simp [-cellOK, a3, a4, a5, nw_cells, nw_fold, qy_cells, qy_fold, k5', htf]; refine ⟨?_, ?_⟩ <;> intro hc) | fail)
    · have k5' := eq_false k5
      (try ((first | with_reducible refine dops_go ?_ | with_reducible refine OKv_go ?_ | with_reducible refine OKr_go ?_); simp [-cellOK, a3, a4, a5, nw_cells, nw_fold, qy_cells, qy_fold, k5', htf])); repeat' (first | refine awp_seq ?_ | refine awp_block ?_ | (refine awp_skip ?_; try simp) | (refine awp_exit ?_; try simp) | (refine awp_ret ?_; try simp) | (refine retP_same (by simp) ?_; simp) | (refine retP_no (by simp) (by simp [noIds]) (by repeat (first | assumption | exact Ext.refl _ | refine ext_new' ?_ | refine Ext.setF ?_ (by first | assumption | (simp [new_nx', St.set, fresh_none]; done) | exact ext_fresh (by assumption)))) ?_; simp [-cellOK, a3, a4, a5, nw_cells, nw_fold, qy_cells, qy_fold, k5', htf, new_m, set_m, new_nx']) | ((first | refine awp_reg ?_ | refine awp_drawT (fun _ => false) mixed (by decide +kernel) ?_ | refine awp_drawT isCallO mixed (by decide +kernel) ?_ | refine PCalls.use (hr) ?_ | refine Or.inl ⟨_, Or.inl (hr), ?_⟩ | refine PCalls.use (hs) ?_ | refine Or.inl ⟨_, Or.inl (hs), ?_⟩); simp [-cellOK, a3, a4, a5, nw_cells, nw_fold, qy_cells, qy_fold, k5', htf]) | (refine guarded_split ?_ ?_ <;> (intro hg; simp only [hg]; simp [-cellOK, a3, a4, a5, nw_cells, nw_fold, qy_cells, qy_fold, k5', htf])) | (apply awp_cond_t; focus (simp [-cellOK, a3, a4, a5, nw_cells, nw_fold, qy_cells, qy_fold, k5', htf]; done)) | (apply awp_cond_f; focus (simp [-cellOK, a3, a4, a5, nw_cells, nw_fold, qy_cells, qy_fold, k5', htf]; done)) | (refine awp_cond ?_; simp [-cellOK, a3, a4, a5, nw_cells, nw_fold, qy_cells, qy_fold, k5', htf]; refine ⟨?_, ?_⟩ <;> intro hc) | fail)

theorem pcut_calls (n m : Nw) (f g : Fl) (q : Qy) (hn : NwOK n) (hm : NwOK m) (hq : RgOK q.r) :
    PCalls Try.prog 57 [nwAV n f, nwAV m g, qyAV q] (rgsAV (cutP [n, if q.kind = 5 then m else n] q.r) false) := by
  refine pbody Try.func57 rfl (N := 23) rfl rfl (by simp) (by simp [noIds]) fun σ => ?_
  repeat (refine awp_seq ?_)
  refine awp_reg ?_
  simp [-cellOK, nw_cells, qy_cells]
  generalize hA0 : put 23 _ _ _ = A0
  have d3 : A0 3 = .rp ⟨3, σ.nx 3, 3⟩ 0 0 := by rw [← hA0]; simp [new_nx']
  have d4 : A0 4 = .rp ⟨4, σ.nx 4, 3⟩ 0 0 := by rw [← hA0]; simp [new_nx']
  have d5 : A0 5 = .rp ⟨5, σ.nx 5, 7⟩ 0 0 := by rw [← hA0]; simp [new_nx']
  have d6 : A0 6 = .sl 0 [] true := by rw [← hA0]; simp [new_nx']
  clear hA0
  refine awp_freeze ⟨3, σ.nx 3, 3⟩ ?_
  refine awp_freeze ⟨5, σ.nx 5, 7⟩ ?_
  generalize hτ : St.del _ _ = τ
  generalize hA : (fun t => giveUp _ _ _) = A
  have a3 : A 3 = .pp (nwAV n f).cells 0 := by rw [← hA, ← hτ]; simp [giveUp, St.new, St.del, nw_cells, d3]
  have a4 : A 4 = .rp ⟨4, σ.nx 4, 3⟩ 0 0 := by rw [← hA, ← hτ]; simp [giveUp, St.new, St.del, nw_cells, d4]
  have a5 : A 5 = .pp (qyAV q).cells 0 := by rw [← hA, ← hτ]; simp [giveUp, St.new, St.del, nw_cells, qy_cells, d5]
  have m4 : τ.m ⟨4, σ.nx 4, 3⟩ = some (.buf [nwAV m g]) := by rw [← hτ]; simp [St.new, St.del]
  have hE : Ext σ τ := by
    rw [← hτ]
    refine ⟨fun i o h => ?_, fun s => ?_⟩
    · have q1 : i ≠ ⟨3, σ.nx 3, 3⟩ := fun e => by rw [e, fresh_none] at h; cases h
      have q2 : i ≠ ⟨4, σ.nx 4, 3⟩ := fun e => by rw [e, fresh_none] at h; cases h
      have q3 : i ≠ ⟨5, σ.nx 5, 7⟩ := fun e => by rw [e, fresh_none] at h; cases h
      simp [St.del, St.new, q1, q2, q3, h]
    · simp only [St.del, St.new]
      repeat' split
      all_goals omega
  clear hτ hA
  have f4 : σ.m ⟨4, σ.nx 4, 3⟩ = none := fresh_none _ _ _
  have hrgf : AV.agg [.raw (.int .u32 q.r.lo), .raw (.int .u32 q.r.hi)] = rgAV q.r := rfl
  by_cases k5 : q.kind = 5
  · have hcut := cut_calls [(n, f), (m, g)] false q.r hq (by simp [hn, hm]) (by simp)
    simp only [List.map_cons, List.map_nil] at hcut
    rw [if_pos k5]
    have k5' := eq_true k5
    (try ((first | with_reducible refine dops_go ?_ | with_reducible refine OKv_go ?_ | with_reducible refine OKr_go ?_); simp [-cellOK, a3, a4, a5, nw_cells, nw_fold, qy_cells, qy_fold, m4, k5'])); repeat' (first | refine awp_seq ?_ | refine awp_block ?_ | (refine awp_skip ?_; try simp) | (refine awp_exit ?_; try simp) | (refine awp_ret ?_; try simp) | ((first | refine awp_reg ?_ | refine awp_drawT (fun _ => false) mixed (by decide +kernel) ?_ | refine awp_drawT isCallO mixed (by decide +kernel) ?_); simp [-cellOK, a3, a4, a5, nw_cells, nw_fold, qy_cells, qy_fold, m4, k5']) | (refine guarded_split ?_ ?_ <;> (intro hg; simp only [hg]; simp [-cellOK, a3, a4, a5, nw_cells, nw_fold, qy_cells, qy_fold, m4, k5'])) | (apply awp_cond_t; focus (simp [-cellOK, a3, a4, a5, nw_cells, nw_fold, qy_cells, qy_fold, m4, k5']; done)) | (apply awp_cond_f; focus (simp [-cellOK, a3, a4, a5, nw_cells, nw_fold, qy_cells, qy_fold, m4, k5']; done)) | (refine awp_cond ?_; simp [-cellOK, a3, a4, a5, nw_cells, nw_fold, qy_cells, qy_fold, m4, k5']; refine ⟨?_, ?_⟩ <;> intro hc) | fail)
    refine hcut.useFz (σ0 := σ) ⟨16, τ.nx 16, 3⟩ (ext_fresh hE) (by repeat (first | assumption | exact Ext.refl _ | refine ext_new' ?_ | refine Ext.setF ?_ (by first | assumption | (simp [new_nx', St.set, fresh_none]; done) | exact ext_fresh (by assumption)))) (by simp [giveUp, new_m, netsAV, hrgf]; rfl) ?_
    intro τ2 hE2 hk2 _
    (try ((first | with_reducible refine dops_go ?_ | with_reducible refine OKv_go ?_ | with_reducible refine OKr_go ?_); simp [-cellOK, a3, a4, a5, rgsAV])); repeat' (first | refine awp_seq ?_ | refine awp_block ?_ | (refine awp_skip ?_; try simp) | (refine awp_exit ?_; try simp) | (refine awp_ret ?_; try simp) | (refine retP_same (by simp) ?_; simp) | (refine retP_no (by simp) (by simp [noIds]) (by repeat (first | assumption | exact Ext.refl _ | refine ext_new' ?_ | refine Ext.setF ?_ (by first | assumption | (simp [new_nx', St.set, fresh_none]; done) | exact ext_fresh (by assumption)))) ?_; simp [-cellOK, a3, a4, a5, rgsAV, new_m, set_m, new_nx']) | ((first | refine awp_reg ?_ | refine awp_drawT (fun _ => false) mixed (by decide +kernel) ?_ | refine awp_drawT isCallO mixed (by decide +kernel) ?_); simp [-cellOK, a3, a4, a5, rgsAV]) | (refine guarded_split ?_ ?_ <;> (intro hg; simp only [hg]; simp [-cellOK, a3, a4, a5, rgsAV])) | (apply awp_cond_t; focus (simp [-cellOK, a3, a4, a5, rgsAV]; done)) | (apply awp_cond_f; focus (simp [-cellOK, a3, a4, a5, rgsAV]; done)) | (refine awp_cond ?_; simp [-cellOK, a3, a4, a5, rgsAV]; refine ⟨?_, ?_⟩ <;> intro hc) | fail)
  · have hcut := cut_calls [(n, f), (n, f)] false q.r hq (by simp [hn]) (by simp)
    simp only [List.map_cons, List.map_nil] at hcut
    rw [if_neg k5]
    have k5' := eq_false k5
    have hnp : setPart (nwAV m g) 0 [intsAV n.t.ports f.p, linksAV n.t.links f.l, rulesAV n.rules f.r] = nwAV n f := rfl
    (try ((first | with_reducible refine dops_go ?_ | with_reducible refine OKv_go ?_ | with_reducible refine OKr_go ?_); simp [-cellOK, a3, a4, a5, nw_cells, nw_fold, qy_cells, qy_fold, m4, k5', hnp, set_m])); repeat' (first | refine awp_seq ?_ | refine awp_block ?_ | (refine awp_skip ?_; try simp) | (refine awp_exit ?_; try simp) | (refine awp_ret ?_; try simp) | ((first | refine awp_reg ?_ | refine awp_drawT (fun _ => false) mixed (by decide +kernel) ?_ | refine awp_drawT isCallO mixed (by decide +kernel) ?_); simp [-cellOK, a3, a4, a5, nw_cells, nw_fold, qy_cells, qy_fold, m4, k5', hnp, set_m]) | (refine guarded_split ?_ ?_ <;> (intro hg; simp only [hg]; simp [-cellOK, a3, a4, a5, nw_cells, nw_fold, qy_cells, qy_fold, m4, k5', hnp, set_m])) | (apply awp_cond_t; focus (simp [-cellOK, a3, a4, a5, nw_cells, nw_fold, qy_cells, qy_fold, m4, k5', hnp, set_m]; done)) | (apply awp_cond_f; focus (simp [-cellOK, a3, a4, a5, nw_cells, nw_fold, qy_cells, qy_fold, m4, k5', hnp, set_m]; done)) | (refine awp_cond ?_; simp [-cellOK, a3, a4, a5, nw_cells, nw_fold, qy_cells, qy_fold, m4, k5', hnp, set_m]; refine ⟨?_, ?_⟩ <;> intro hc) | fail)
    refine hcut.useFz (σ0 := σ) ⟨16, τ.nx 16, 3⟩ (ext_fresh hE) (by repeat (first | assumption | exact Ext.refl _ | refine ext_new' ?_ | refine Ext.setF ?_ (by first | assumption | (simp [new_nx', St.set, fresh_none]; done) | exact ext_fresh (by assumption)))) (by simp [giveUp, new_m, set_m, m4, netsAV, hrgf]; rfl) ?_
    intro τ2 hE2 hk2 _
    (try ((first | with_reducible refine dops_go ?_ | with_reducible refine OKv_go ?_ | with_reducible refine OKr_go ?_); simp [-cellOK, a3, a4, a5, rgsAV])); repeat' (first | refine awp_seq ?_ | refine awp_block ?_ | (refine awp_skip ?_; try simp) | (refine awp_exit ?_; try simp) | (refine awp_ret ?_; try simp) | (refine retP_same (by simp) ?_; simp) | (refine retP_no (by simp) (by simp [noIds]) (by repeat (first | assumption | exact Ext.refl _ | refine ext_new' ?_ | refine Ext.setF ?_ (by first | assumption | (simp [new_nx', St.set, fresh_none]; done) | exact ext_fresh (by assumption)))) ?_; simp [-cellOK, a3, a4, a5, rgsAV, new_m, set_m, new_nx']) | ((first | refine awp_reg ?_ | refine awp_drawT (fun _ => false) mixed (by decide +kernel) ?_ | refine awp_drawT isCallO mixed (by decide +kernel) ?_); simp [-cellOK, a3, a4, a5, rgsAV]) | (refine guarded_split ?_ ?_ <;> (intro hg; simp only [hg]; simp [-cellOK, a3, a4, a5, rgsAV])) | (apply awp_cond_t; focus (simp [-cellOK, a3, a4, a5, rgsAV]; done)) | (apply awp_cond_f; focus (simp [-cellOK, a3, a4, a5, rgsAV]; done)) | (refine awp_cond ?_; simp [-cellOK, a3, a4, a5, rgsAV]; refine ⟨?_, ?_⟩ <;> intro hc) | fail)
end Go.Proofs.Ytanimmdlgmkmkaa.Av


/- Probes: a new one, and the bound. -/
namespace Go.Proofs.Ytanimmdlgmkmkaa.Av
open Go
set_option linter.unusedSimpArgs false
set_option linter.unusedVariables false
set_option maxRecDepth 100000
set_option maxHeartbeats 4000000
set_option pp.maxSteps 600

theorem Ex.toExt {ip : Id} {σ τ : St} (h : Ex ip σ τ) (n : σ.m ip = none) : Ext σ τ := ⟨fun i o e => h.1 i o (fun q => by rw [q, n] at e; cases e) e, h.2⟩
theorem rgs_cells (l : List Rg) (f : Bool) : (rgsAV l f).cells = [rgsAV l f] := rfl
/-- The parts of a query. -/
def partsQ (n m : Nw) (q : Qy) : List Rg := cutP [n, if q.kind = 5 then m else n] q.r
def pb0 (n m : Nw) (f g : Fl) (q : Qy) : PB := ⟨n, m, f, g, q, sourcesQ n q, partsQ n m q, partsQ n m q⟩
theorem pnew_calls (n m : Nw) (f g : Fl) (q : Qy) (hn : NwOK n) (hm : NwOK m) (hq : RgOK q.r) {σ : St} {K : AV → St → Prop}
    (hK0 : askedB n m q = false → ∀ τ, Ext σ τ → K (.tup [.raw (.pointer none), .raw (.int .i64 121)]) τ)
    (hS : askedB n m q = true → ∃ s ss, sourcesQ n q = s :: ss) (hP : askedB n m q = true → ∃ r rs, partsQ n m q = r :: rs)
    (hK1 : ∀ s ss, askedB n m q = true → sourcesQ n q = s :: ss → ∀ τ ip, ip.sz = 34 → σ.m ip = none → PbR ip (pb0 n m f g q) (.one [] s) nilAV nilAV τ → Ext σ τ → K (.tup [.rp ip 0 0, .raw (.int .i64 0)]) τ) :
    ACalls Try.prog 31 [nwAV n f, nwAV m g, qyAV q] σ K := by
  have ha := asked_calls n m f g q hn hm
  have hso := sources_calls n f q hn.ports
  have hcu : PCalls Try.prog 57 [nwAV n f, nwAV m g, qyAV q] (rgsAV (partsQ n m q) false) := pcut_calls n m f g q hn hm hq
  refine abody Try.func31 rfl (N := 36) rfl rfl (by simp) ?_
  repeat (refine awp_seq ?_)
  refine awp_reg ?_
  simp [-cellOK, nw_cells, qy_cells]
  generalize hA0 : put 36 _ _ _ = A0
  have d3 : A0 3 = .rp ⟨3, σ.nx 3, 3⟩ 0 0 := by rw [← hA0]; simp [new_nx']
  have d4 : A0 4 = .rp ⟨4, σ.nx 4, 3⟩ 0 0 := by rw [← hA0]; simp [new_nx']
  have d5 : A0 5 = .rp ⟨5, σ.nx 5, 7⟩ 0 0 := by rw [← hA0]; simp [new_nx']
  clear hA0
  refine awp_freeze ⟨3, σ.nx 3, 3⟩ ?_
  refine awp_freeze ⟨4, σ.nx 4, 3⟩ ?_
  refine awp_freeze ⟨5, σ.nx 5, 7⟩ ?_
  generalize hτ : St.del _ _ = τ
  generalize hA : (fun t => giveUp _ _ _) = A
  have a3 : A 3 = .pp (nwAV n f).cells 0 := by rw [← hA, ← hτ]; simp [giveUp, St.new, St.del, nw_cells, d3]
  have a4 : A 4 = .pp (nwAV m g).cells 0 := by rw [← hA, ← hτ]; simp [giveUp, St.new, St.del, nw_cells, d4]
  have a5 : A 5 = .pp (qyAV q).cells 0 := by rw [← hA, ← hτ]; simp [giveUp, St.new, St.del, nw_cells, qy_cells, d5]
  have hE : Ext σ τ := by
    rw [← hτ]
    refine ⟨fun i o h => ?_, fun s => ?_⟩
    · have q1 : i ≠ ⟨3, σ.nx 3, 3⟩ := fun e => by rw [e, fresh_none] at h; cases h
      have q2 : i ≠ ⟨4, σ.nx 4, 3⟩ := fun e => by rw [e, fresh_none] at h; cases h
      have q3 : i ≠ ⟨5, σ.nx 5, 7⟩ := fun e => by rw [e, fresh_none] at h; cases h
      simp [St.del, St.new, q1, q2, q3, h]
    · simp only [St.del, St.new]
      repeat' split
      all_goals omega
  clear hτ hA
  cases hab : askedB n m q with
  | false =>
    rw [hab] at ha
    (try ((first | with_reducible refine dops_go ?_ | with_reducible refine OKv_go ?_ | with_reducible refine OKr_go ?_); simp [-cellOK, a3, a4, a5, nw_cells, nw_fold, qy_cells, qy_fold])); repeat' (first | refine awp_seq ?_ | refine awp_block ?_ | (refine awp_skip ?_; try simp) | (refine awp_exit ?_; try simp) | (refine awp_ret ?_; try simp) | ((first | refine awp_reg ?_ | refine awp_drawT (fun _ => false) mixed (by decide +kernel) ?_ | refine awp_drawT isCallO mixed (by decide +kernel) ?_ | refine PCalls.use (ha) ?_ | refine Or.inl ⟨_, Or.inl (ha), ?_⟩); simp [-cellOK, a3, a4, a5, nw_cells, nw_fold, qy_cells, qy_fold]) | (refine guarded_split ?_ ?_ <;> (intro hg; simp only [hg]; simp [-cellOK, a3, a4, a5, nw_cells, nw_fold, qy_cells, qy_fold])) | (apply awp_cond_t; focus (simp [-cellOK, a3, a4, a5, nw_cells, nw_fold, qy_cells, qy_fold]; done)) | (apply awp_cond_f; focus (simp [-cellOK, a3, a4, a5, nw_cells, nw_fold, qy_cells, qy_fold]; done)) | (refine awp_cond ?_; simp [-cellOK, a3, a4, a5, nw_cells, nw_fold, qy_cells, qy_fold]; refine ⟨?_, ?_⟩ <;> intro hc) | fail)
    exact retK_of (.inr rfl) (by simp) (hK0 hab _ hE)
  | true =>
    rw [hab] at ha
    obtain ⟨s, ss, hs⟩ := hS hab
    obtain ⟨r, rs, hp⟩ := hP hab
    have ko : ∀ l : List Rg, cellOK (rgsAV l false) = true := fun _ => rfl
    have ki : ∀ l : List Int, cellOK (intsAV l false) = true := fun _ => rfl
    (try ((first | with_reducible refine dops_go ?_ | with_reducible refine OKv_go ?_ | with_reducible refine OKr_go ?_); simp [-cellOK, a3, a4, a5, nw_cells, nw_fold, qy_cells, qy_fold, ints_cells, rgs_cells, ko, ki, set_m, new_m])); repeat' (first | refine awp_seq ?_ | refine awp_block ?_ | (refine awp_skip ?_; try simp) | (refine awp_exit ?_; try simp) | (refine awp_ret ?_; try simp) | ((first | refine awp_reg ?_ | refine awp_drawT (fun _ => false) mixed (by decide +kernel) ?_ | refine awp_drawT isCallO mixed (by decide +kernel) ?_ | refine PCalls.use (ha) ?_ | refine Or.inl ⟨_, Or.inl (ha), ?_⟩ | refine PCalls.use (hso) ?_ | refine Or.inl ⟨_, Or.inl (hso), ?_⟩ | refine PCalls.use (hcu) ?_ | refine Or.inl ⟨_, Or.inl (hcu), ?_⟩); simp [-cellOK, a3, a4, a5, nw_cells, nw_fold, qy_cells, qy_fold, ints_cells, rgs_cells, ko, ki, set_m, new_m]) | (refine guarded_split ?_ ?_ <;> (intro hg; simp only [hg]; simp [-cellOK, a3, a4, a5, nw_cells, nw_fold, qy_cells, qy_fold, ints_cells, rgs_cells, ko, ki, set_m, new_m])) | (apply awp_cond_t; focus (simp [-cellOK, a3, a4, a5, nw_cells, nw_fold, qy_cells, qy_fold, ints_cells, rgs_cells, ko, ki, set_m, new_m]; done)) | (apply awp_cond_f; focus (simp [-cellOK, a3, a4, a5, nw_cells, nw_fold, qy_cells, qy_fold, ints_cells, rgs_cells, ko, ki, set_m, new_m]; done)) | (refine awp_cond ?_; simp [-cellOK, a3, a4, a5, nw_cells, nw_fold, qy_cells, qy_fold, ints_cells, rgs_cells, ko, ki, set_m, new_m]; refine ⟨?_, ?_⟩ <;> intro hc) | fail)
    have f25 : τ.m ⟨25, τ.nx 25, 34⟩ = none := fresh_none _ _ _
    generalize hσ1 : St.set _ _ _ = σ1
    have m1 : σ1.m ⟨25, τ.nx 25, 34⟩ = some (pbOb (pb0 n m f g q) 0 nilAV z0 nilAV z0 (.raw .nilFunc) false vc0) := by rw [← hσ1]; simp [set_m, new_m, pbOb, pbRow, pb0, nilAV, z0, vc0]
    have hX1 : Ex ⟨25, τ.nx 25, 34⟩ τ σ1 := by rw [← hσ1]; exact ((Ex.refl _ _).new _ _ _).set _
    clear hσ1
    refine begin_calls rfl m1 (s := s) (ss := ss) hs fun τ2 mτ hX2 => ?_
    (try ((first | with_reducible refine dops_go ?_ | with_reducible refine OKv_go ?_ | with_reducible refine OKr_go ?_); simp [-cellOK])); repeat' (first | refine awp_seq ?_ | refine awp_block ?_ | (refine awp_skip ?_; try simp) | (refine awp_exit ?_; try simp) | (refine awp_ret ?_; try simp) | ((first | refine awp_reg ?_ | refine awp_drawT (fun _ => false) mixed (by decide +kernel) ?_ | refine awp_drawT isCallO mixed (by decide +kernel) ?_); simp [-cellOK]) | (refine guarded_split ?_ ?_ <;> (intro hg; simp only [hg]; simp [-cellOK])) | (apply awp_cond_t; focus (simp [-cellOK]; done)) | (apply awp_cond_f; focus (simp [-cellOK]; done)) | (refine awp_cond ?_; simp [-cellOK]; refine ⟨?_, ?_⟩ <;> intro hc) | fail)
    exact retK_of (x := .tup [.rp ⟨25, τ.nx 25, 34⟩ 0 0, .raw (.int .i64 0)]) (.inr rfl) (by simp) (hK1 s ss hab hs τ2 _ rfl (ext_fresh hE) ⟨rfl, nil_own _, s, ss, r, rs, 0, hs, hp, Way.start _ _ _, mτ⟩ (hE.trans ((hX1.trans hX2).toExt f25)))
/-- The bound, as it is reckoned. -/
def boundQ (n m : Nw) (q : Qy) : Int := if askedB n m q = true then (if q.kind = 5 then (sourcesQ n q).length * (partsQ n m q).length * (n.t.ports.length + 1) * 2 else (sourcesQ n q).length * (partsQ n m q).length * (n.t.ports.length + 1)) else 0
end Go.Proofs.Ytanimmdlgmkmkaa.Av


/- Probes, the plain law: a probe's units come to the query's verdict. -/
namespace Go.Proofs.Ytanimmdlgmkmkaa.Av
open Go
set_option linter.unusedSimpArgs false
set_option linter.unusedVariables false
set_option maxRecDepth 100000

/-- From here, so many units come to this verdict. -/
inductive Ends : PB → Ph → Vd → Nat → Prop
  | fin (X : PB) (V : Vd) : Ends X (.fin V) V 0
  | step {X : PB} {ph : Ph} {V : Vd} {T : Nat} : ph.done = false → Ends (stepP X ph).1 (stepP X ph).2 V T → Ends X ph V (T + 1)
theorem Ends.cast {X : PB} {ph : Ph} {V : Vd} {T T' : Nat} (h : Ends X ph V T) (e : T = T') : Ends X ph V T' := e ▸ h
theorem Ends.done {X : PB} {ph : Ph} {V : Vd} (h : Ends X ph V 0) : ph = .fin V := by cases h; rfl
theorem Ends.not {X : PB} {ph : Ph} {V : Vd} {T : Nat} (h : Ends X ph V (T + 1)) : ph.done = false := by cases h; assumption
theorem Ends.go {X : PB} {ph : Ph} {V : Vd} {T : Nat} (h : Ends X ph V T) (k : Nat) : (goP k X ph).2 = min k T ∧ Ends (goP k X ph).1.1 (goP k X ph).1.2 V (T - k) := by
  induction k generalizing X ph T with
  | zero => exact ⟨by simp [goP], h⟩
  | succ k ih =>
    cases T with
    | zero =>
      have := h.done; subst this
      rw [goP_done (k + 1) rfl]
      exact ⟨by simp, by simpa using h⟩
    | succ T =>
      cases h with
      | step hd hs =>
        rw [goP, if_neg (by simp [hd])]
        obtain ⟨h1, h2⟩ := ih hs
        refine ⟨?_, ?_⟩
        · show _ + 1 = _; rw [h1]; omega
        · exact h2.cast (by omega)
theorem Way.lt {n : Nw} {a d0 : Int} : ∀ (k : Nat) {d : Int} {p : List Int}, Way n a d0 d p → 1 + 2 * n.t.links.length - p.length = k → p.length < (traceF n d0 a).path.length := by
  intro k
  induction k with
  | zero =>
    intro d p h hk
    have hl := h.len
    by_cases hd : d ∈ p
    · rw [h.again hd]; simp
    · by_cases h4 : (stepF n d a).1 = 4
      · have := (h.on hd h4).len
        simp only [List.length_append, List.length_singleton] at this; omega
      · rw [h.fin hd h4]; simp
  | succ k ih =>
    intro d p h hk
    by_cases hd : d ∈ p
    · rw [h.again hd]; simp
    · by_cases h4 : (stepF n d a).1 = 4
      · have := ih (h.on hd h4) (by simp only [List.length_append, List.length_singleton]; omega)
        simp only [List.length_append, List.length_singleton] at this; omega
      · rw [h.fin hd h4]; simp
theorem one_ends {X : PB} {s : Int} {ss : List Int} {r : Rg} {rs : List Rg} (hS : X.S = s :: ss) (hP : X.P = r :: rs) {V : Vd} {T : Nat} {Y : PB × Ph}
    (hY : Y = if X.q.kind = 5 then (X, .two [] s) else overP X (traceF X.N s r.lo) noTk) (hE : Ends Y.1 Y.2 V T) : ∀ (k : Nat) {d : Int} {p : List Int}, Way X.N r.lo s d p → 1 + 2 * X.N.t.links.length - p.length = k →
    Ends X (.one p d) V (T + ((traceF X.N s r.lo).path.length - p.length)) := by
  intro k
  induction k with
  | zero =>
    intro d p h hk
    have hl := h.len
    have hlt := h.lt _ rfl
    by_cases he : d ∈ p ∨ (stepF X.N d r.lo).1 ≠ 4
    · have e1 : (traceF X.N s r.lo).path.length = p.length + 1 := by
        by_cases hd : d ∈ p
        · rw [h.again hd]; simp
        · rw [h.fin hd (he.resolve_left hd)]; simp
      refine (Ends.step (T := T) rfl ?_).cast (by omega)
      simp only [stepP, hS, hP, if_pos he]
      rw [← hY]; exact hE
    · have hd : d ∉ p := fun q => he (.inl q)
      have h4 : (stepF X.N d r.lo).1 = 4 := Classical.byContradiction fun q => he (.inr q)
      have := (h.on hd h4).len
      simp only [List.length_append, List.length_singleton] at this; omega
  | succ k ih =>
    intro d p h hk
    have hlt := h.lt _ rfl
    by_cases he : d ∈ p ∨ (stepF X.N d r.lo).1 ≠ 4
    · have e1 : (traceF X.N s r.lo).path.length = p.length + 1 := by
        by_cases hd : d ∈ p
        · rw [h.again hd]; simp
        · rw [h.fin hd (he.resolve_left hd)]; simp
      refine (Ends.step (T := T) rfl ?_).cast (by omega)
      simp only [stepP, hS, hP, if_pos he]
      rw [← hY]; exact hE
    · have hd : d ∉ p := fun q => he (.inl q)
      have h4 : (stepF X.N d r.lo).1 = 4 := Classical.byContradiction fun q => he (.inr q)
      have h2 := ih (h.on hd h4) (by simp only [List.length_append, List.length_singleton]; omega)
      have hlt2 := (h.on hd h4).lt _ rfl
      simp only [List.length_append, List.length_singleton] at h2 hlt2
      refine (Ends.step (T := T + ((traceF X.N s r.lo).path.length - (p.length + 1))) rfl ?_).cast (by omega)
      simp only [stepP, hS, hP, if_neg he]
      exact h2
theorem two_ends {X : PB} {s : Int} {ss : List Int} {r : Rg} {rs : List Rg} (hS : X.S = s :: ss) (hP : X.P = r :: rs) {V : Vd} {T : Nat}
    (hE : Ends (overP X (traceF X.N s r.lo) (traceF X.M s r.lo)).1 (overP X (traceF X.N s r.lo) (traceF X.M s r.lo)).2 V T) : ∀ (k : Nat) {d : Int} {p : List Int}, Way X.M r.lo s d p → 1 + 2 * X.M.t.links.length - p.length = k →
    Ends X (.two p d) V (T + ((traceF X.M s r.lo).path.length - p.length)) := by
  intro k
  induction k with
  | zero =>
    intro d p h hk
    have hl := h.len
    have hlt := h.lt _ rfl
    by_cases he : d ∈ p ∨ (stepF X.M d r.lo).1 ≠ 4
    · have e1 : (traceF X.M s r.lo).path.length = p.length + 1 := by
        by_cases hd : d ∈ p
        · rw [h.again hd]; simp
        · rw [h.fin hd (he.resolve_left hd)]; simp
      refine (Ends.step (T := T) rfl ?_).cast (by omega)
      simp only [stepP, hS, hP, if_pos he]
      exact hE
    · have hd : d ∉ p := fun q => he (.inl q)
      have h4 : (stepF X.M d r.lo).1 = 4 := Classical.byContradiction fun q => he (.inr q)
      have := (h.on hd h4).len
      simp only [List.length_append, List.length_singleton] at this; omega
  | succ k ih =>
    intro d p h hk
    have hlt := h.lt _ rfl
    by_cases he : d ∈ p ∨ (stepF X.M d r.lo).1 ≠ 4
    · have e1 : (traceF X.M s r.lo).path.length = p.length + 1 := by
        by_cases hd : d ∈ p
        · rw [h.again hd]; simp
        · rw [h.fin hd (he.resolve_left hd)]; simp
      refine (Ends.step (T := T) rfl ?_).cast (by omega)
      simp only [stepP, hS, hP, if_pos he]
      exact hE
    · have hd : d ∉ p := fun q => he (.inl q)
      have h4 : (stepF X.M d r.lo).1 = 4 := Classical.byContradiction fun q => he (.inr q)
      have h2 := ih (h.on hd h4) (by simp only [List.length_append, List.length_singleton]; omega)
      have hlt2 := (h.on hd h4).lt _ rfl
      simp only [List.length_append, List.length_singleton] at h2 hlt2
      refine (Ends.step (T := T + ((traceF X.M s r.lo).path.length - (p.length + 1))) rfl ?_).cast (by omega)
      simp only [stepP, hS, hP, if_neg he]
      exact h2
/-- The second trace of a pair, where one is asked for. -/
def uOf (M : Nw) (q : Qy) (s a : Int) : Tk := if q.kind = 5 then traceF M s a else noTk
def costP (N M : Nw) (q : Qy) (s a : Int) : Nat := (traceF N s a).path.length + (if q.kind = 5 then (traceF M s a).path.length else 0)
theorem pair_ends {X : PB} {s : Int} {ss : List Int} {r : Rg} {rs : List Rg} (hS : X.S = s :: ss) (hP : X.P = r :: rs) {V : Vd} {T : Nat}
    (hE : Ends (overP X (traceF X.N s r.lo) (uOf X.M X.q s r.lo)).1 (overP X (traceF X.N s r.lo) (uOf X.M X.q s r.lo)).2 V T) : Ends X (.one [] s) V (T + costP X.N X.M X.q s r.lo) := by
  unfold uOf at hE
  unfold costP
  by_cases k5 : X.q.kind = 5
  · rw [if_pos k5] at hE
    have h2 := two_ends hS hP hE _ (Way.start _ _ _) rfl
    have h1 := one_ends hS hP (Y := (X, .two [] s)) (by rw [if_pos k5]) h2 _ (Way.start _ _ _) rfl
    rw [if_pos k5]
    exact h1.cast (by simp only [List.length_nil]; omega)
  · rw [if_neg k5] at hE
    have h1 := one_ends hS hP (by rw [if_neg k5]) hE _ (Way.start _ _ _) rfl
    rw [if_neg k5]
    exact h1.cast (by simp only [List.length_nil]; omega)
theorem cost_pos (N M : Nw) (q : Qy) (s a : Int) : 1 ≤ costP N M q s a := by
  have := (Way.start N a s).lt _ rfl
  unfold costP
  simp only [List.length_nil] at this; omega
/-- The first pair of a source that breaks the query. -/
def seekF (N M : Nw) (q : Qy) (s : Int) : List Rg → Option Vd
  | [] => none
  | r :: rs => if breaksQ q (traceF N s r.lo) (uOf M q s r.lo) = true then some ⟨false, s, r.lo, traceF N s r.lo⟩ else seekF N M q s rs
def seeksF (N M : Nw) (q : Qy) (A : List Rg) : List Int → Option Vd
  | [] => none
  | s :: ss => match seekF N M q s A with
    | some v => some v
    | none => seeksF N M q A ss
def allV : Vd := ⟨true, 0, 0, noTk⟩
theorem ends_run {X : PB} {C : Nat} (hA : X.A ≠ []) (hC : ∀ s ∈ X.S, ∀ a, costP X.N X.M X.q s a ≤ C) : ∀ (ss : List Int) (s : Int) (P : List Rg), P ≠ [] → s ∈ X.S → (∀ s' ∈ ss, s' ∈ X.S) →
    ∃ T, Ends { X with S := s :: ss, P := P } (.one [] s) ((seekF X.N X.M X.q s P).getD ((seeksF X.N X.M X.q X.A ss).getD allV)) T ∧ 1 ≤ T ∧ T ≤ (P.length + ss.length * X.A.length) * C := by
  intro ss
  induction ss with
  | nil =>
    intro s P
    induction P with
    | nil => intro h; exact absurd rfl h
    | cons r P ih =>
      intro _ hs hss
      have hc := hC s hs r.lo
      have h1 := cost_pos X.N X.M X.q s r.lo
      simp only [seekF]
      by_cases hb : breaksQ X.q (traceF X.N s r.lo) (uOf X.M X.q s r.lo) = true
      · refine ⟨0 + costP X.N X.M X.q s r.lo, pair_ends (s := s) (ss := []) (r := r) (rs := P) rfl rfl ?_, by omega, ?_⟩
        · simp only [overP, if_pos hb]
          exact .fin _ _
        · simp only [List.length_cons, List.length_nil, Nat.zero_mul, Nat.add_zero, Nat.add_mul, Nat.one_mul]; omega
      · rw [if_neg hb]
        cases P with
        | nil =>
          refine ⟨0 + costP X.N X.M X.q s r.lo, pair_ends (s := s) (ss := []) (r := r) (rs := []) rfl rfl ?_, by omega, ?_⟩
          · simp only [overP, if_neg hb]
            exact .fin _ _
          · simp only [List.length_cons, List.length_nil, Nat.zero_mul, Nat.add_zero, Nat.add_mul, Nat.one_mul]; omega
        | cons r' P =>
          obtain ⟨T, h2, h3, h4⟩ := ih (by simp) hs hss
          refine ⟨T + costP X.N X.M X.q s r.lo, pair_ends (s := s) (ss := []) (r := r) (rs := r' :: P) rfl rfl ?_, by omega, ?_⟩
          · simp only [overP, if_neg hb]
            exact h2
          · simp only [List.length_cons, List.length_nil, Nat.zero_mul, Nat.add_zero, Nat.add_mul, Nat.one_mul] at h4 ⊢; omega
  | cons s' ss ihs =>
    intro s P
    induction P with
    | nil => intro h; exact absurd rfl h
    | cons r P ih =>
      intro _ hs hss
      have hc := hC s hs r.lo
      have h1 := cost_pos X.N X.M X.q s r.lo
      simp only [seekF]
      by_cases hb : breaksQ X.q (traceF X.N s r.lo) (uOf X.M X.q s r.lo) = true
      · refine ⟨0 + costP X.N X.M X.q s r.lo, pair_ends (s := s) (ss := s' :: ss) (r := r) (rs := P) rfl rfl ?_, by omega, ?_⟩
        · simp only [overP, if_pos hb]
          exact .fin _ _
        · simp only [List.length_cons, Nat.add_mul, Nat.one_mul]; omega
      · rw [if_neg hb]
        cases P with
        | nil =>
          obtain ⟨T, h2, h3, h4⟩ := ihs s' X.A hA (hss s' (by simp)) fun x hx => hss x (by simp [hx])
          refine ⟨T + costP X.N X.M X.q s r.lo, pair_ends (s := s) (ss := s' :: ss) (r := r) (rs := []) rfl rfl ?_, by omega, ?_⟩
          · simp only [overP, if_neg hb]
            have e : (seekF X.N X.M X.q s []).getD ((seeksF X.N X.M X.q X.A (s' :: ss)).getD allV) = (seekF X.N X.M X.q s' X.A).getD ((seeksF X.N X.M X.q X.A ss).getD allV) := by
              simp only [seekF, seeksF]
              cases seekF X.N X.M X.q s' X.A <;> rfl
            have e2 : seekF X.N X.M X.q s [] = none := rfl
            rw [e2] at e
            first | exact e ▸ h2 | (rw [e]; exact h2) | (rw [e2, e]; exact h2)
          · simp only [List.length_cons, List.length_nil, Nat.add_mul, Nat.one_mul] at h4 ⊢; omega
        | cons r' P =>
          obtain ⟨T, h2, h3, h4⟩ := ih (by simp) hs hss
          refine ⟨T + costP X.N X.M X.q s r.lo, pair_ends (s := s) (ss := s' :: ss) (r := r) (rs := r' :: P) rfl rfl ?_, by omega, ?_⟩
          · simp only [overP, if_neg hb]
            exact h2
          · simp only [List.length_cons, Nat.add_mul, Nat.one_mul] at h4 ⊢; omega
end Go.Proofs.Ytanimmdlgmkmkaa.Av


/- Probes, the plain law: the verdict, and the bound. -/
namespace Go.Proofs.Ytanimmdlgmkmkaa.Av
open Go
set_option linter.unusedSimpArgs false
set_option linter.unusedVariables false
set_option maxRecDepth 100000

theorem asked_iff {n m : Nw} {q : Qy} : askedB n m q = true ↔ RightQ n q ∧ (q.kind = 5 → n.t = m.t) := by
  unfold askedB
  rw [Bool.and_eq_true, rightQ_iff]
  simp only [Bool.or_eq_true, Bool.not_eq_true', decide_eq_false_iff_not, decide_eq_true_eq]
  constructor
  · rintro ⟨h, h1 | h1⟩
    · exact ⟨h, fun k => absurd k h1⟩
    · exact ⟨h, fun _ => h1⟩
  · rintro ⟨h, h1⟩
    refine ⟨h, ?_⟩
    by_cases k : q.kind = 5
    · exact .inr (h1 k)
    · exact .inl k
theorem seek_F {n m : Nw} {q : Qy} (ht : q.kind = 5 → n.t = m.t) {s : Int} (hs : 0 ≤ s ∧ s < n.t.ports.length) : ∀ P : List Rg, seek n (if q.kind = 5 then m else n) q s P = seekF n m q s P
  | [] => rfl
  | r :: rs => by
    rw [seek, seekF, seek_F ht hs rs, trace_ok hs]
    by_cases k : q.kind = 5
    · have hs' : 0 ≤ s ∧ s < m.t.ports.length := by rw [← ht k]; exact hs
      rw [if_pos k, trace_ok hs']
      simp only [uOf, if_pos k]
    · rw [if_neg k, trace_ok hs]
      simp only [uOf, if_neg k]
      rw [breaksQ_u k _ (traceF n s r.lo) noTk]
theorem seeks_F {n m : Nw} {q : Qy} (ht : q.kind = 5 → n.t = m.t) (P : List Rg) : ∀ S : List Int, (∀ s ∈ S, 0 ≤ s ∧ s < n.t.ports.length) → seeks n (if q.kind = 5 then m else n) q P S = seeksF n m q P S
  | [], _ => rfl
  | s :: S, h => by
    rw [seeks, seeksF, seek_F ht (h s (by simp)), seeks_F ht P S fun x hx => h x (by simp [hx])]
    cases seekF n m q s P <;> rfl
theorem run_pb {n m : Nw} {q : Qy} (h : askedB n m q = true) : runQ n m q = ((seeksF n m q (partsQ n m q) (sourcesQ n q)).getD allV, 0) := by
  obtain ⟨h1, h2⟩ := asked_iff.1 h
  rw [run_of h1 h2, seeks_F h2 _ _ fun s hs => source_ok h1 hs]
  unfold partsQ
  cases seeksF n m q (cutP [n, if q.kind = 5 then m else n] q.r) (sourcesQ n q) <;> rfl
theorem run_no {n m : Nw} {q : Qy} (h : askedB n m q = false) : runQ n m q = (⟨false, 0, 0, noTk⟩, 121) := by
  unfold runQ
  rw [if_pos]
  unfold askedB at h
  rw [Bool.and_eq_false_iff] at h
  rcases h with h | h
  · exact .inl h
  · simp only [Bool.or_eq_false_iff, Bool.not_eq_false', decide_eq_true_eq, decide_eq_false_iff_not] at h
    exact .inr h
theorem dev_has {t : Tp} {p : Pt} (h : hasB t p = true) : 0 ≤ p.dev ∧ p.dev < t.ports.length := by
  unfold hasB at h
  rw [Bool.and_eq_true, decide_eq_true_eq] at h
  refine ⟨h.1, ?_⟩
  cases hp : t.ports[p.dev.toNat]? with
  | none => rw [hp] at h; cases h.2
  | some x =>
    obtain ⟨h1, _⟩ := List.getElem?_eq_some_iff.1 hp
    omega
structure RightT (t : Tp) : Prop where
  p0 : t.ports.length ≠ 0
  p8 : t.ports.length ≤ 8
  l16 : t.links.length ≤ 16
  lk : ∀ l ∈ t.links, hasB t l.a = true ∧ hasB t l.b = true
theorem rightT_of {t : Tp} (h : rightT t = true) : RightT t := by
  unfold rightT at h
  simp only [Bool.and_eq_true, Bool.not_eq_true', decide_eq_false_iff_not] at h
  obtain ⟨h1, h2, h3, h4, h5, h6⟩ := h
  refine ⟨h1, by omega, by omega, fun l hl => ?_⟩
  rw [List.any_eq_false] at h5
  have := h5 l hl
  unfold linkBad at this
  simp only [Bool.or_eq_true, Bool.not_eq_true', not_or, Bool.not_eq_false] at this
  exact ⟨this.1, this.2.1⟩
theorem way_len {n : Nw} (hr : RightT n.t) {a s d : Int} (hs : 0 ≤ s ∧ s < n.t.ports.length) {p : List Int} (h : Way n a s d p) : p.length ≤ n.t.ports.length := by
  have := nodup_le (m := (List.range n.t.ports.length).map fun i : Nat => (i : Int)) h.nd fun x hx => by
    have hd := h.sub x hx
    have hx' : 0 ≤ x ∧ x < n.t.ports.length := by
      unfold devsN at hd
      rw [List.mem_cons, List.mem_flatMap] at hd
      rcases hd with rfl | ⟨l, hl, hx⟩
      · exact hs
      · simp only [List.mem_cons, List.not_mem_nil, or_false] at hx
        obtain ⟨h1, h2⟩ := hr.lk l hl
        rcases hx with rfl | rfl
        · exact dev_has h1
        · exact dev_has h2
    simp only [List.mem_map, List.mem_range]
    exact ⟨x.toNat, by omega, by omega⟩
  simpa using this
theorem path_le {n : Nw} (hr : RightT n.t) {a s : Int} (hs : 0 ≤ s ∧ s < n.t.ports.length) : ∀ (k : Nat) {d : Int} {p : List Int}, Way n a s d p → 1 + 2 * n.t.links.length - p.length = k → (traceF n s a).path.length ≤ n.t.ports.length + 1 := by
  intro k
  induction k with
  | zero =>
    intro d p h hk
    have hl := h.len
    have h0 := way_len hr hs h
    by_cases hd : d ∈ p
    · rw [h.again hd]; simp; omega
    · by_cases h4 : (stepF n d a).1 = 4
      · have := (h.on hd h4).len
        simp only [List.length_append, List.length_singleton] at this; omega
      · rw [h.fin hd h4]; simp; omega
  | succ k ih =>
    intro d p h hk
    have h0 := way_len hr hs h
    by_cases hd : d ∈ p
    · rw [h.again hd]; simp; omega
    · by_cases h4 : (stepF n d a).1 = 4
      · exact ih (h.on hd h4) (by simp only [List.length_append, List.length_singleton]; omega)
      · rw [h.fin hd h4]; simp; omega
theorem rightN_of {n : Nw} (h : rightN n = true) : RightT n.t ∧ n.rules.length ≤ 40 := by
  unfold rightN allB at h
  simp only [Bool.and_eq_true, decide_eq_true_eq] at h
  exact ⟨rightT_of h.1, h.2.1.2⟩
theorem parts_len {n m : Nw} (hn : rightN n = true) (hm : rightN m = true) (q : Qy) : (partsQ n m q).length ≤ 161 := by
  unfold partsQ
  by_cases hr : q.r.hi < q.r.lo
  · unfold cutP; rw [if_pos hr]; simp
  · have hM : rightN (if q.kind = 5 then m else n) = true := by split <;> assumption
    generalize (if q.kind = 5 then m else n) = M at hM
    rw [cutP_right (by simp [hn, hM]) (by simp) (by omega)]
    unfold cutC
    have h1 := List.length_filterMap_le (cutOne q.r) (atomsC (cutsL (rgsOf [n, M])))
    rw [atomsC_len] at h1
    have h2 := cutsL_len (rgsOf [n, M])
    have h3 : (rgsOf [n, M]).length = n.rules.length + M.rules.length := by simp [rgsOf]
    have := (rightN_of hn).2
    have := (rightN_of hM).2
    omega
theorem parts_ne {n m : Nw} (hn : rightN n = true) (hm : rightN m = true) {q : Qy} (hq : RgOK q.r) (h : q.r.lo ≤ q.r.hi) : ∃ r rs, partsQ n m q = r :: rs := by
  have hM : rightN (if q.kind = 5 then m else n) = true := by split <;> assumption
  unfold partsQ
  generalize (if q.kind = 5 then m else n) = M at hM
  rw [cutP_right (by simp [hn, hM]) (by simp) h]
  have h0 := hq.lo0
  obtain ⟨p, hp, _⟩ := part_has (cutsL_cuts (rgsOf [n, M])) (r := q.r) (x := q.r.lo) h0 hq.lo1 ⟨Int.le_refl _, h⟩
  cases hc : cutC (cutsL (rgsOf [n, M])) q.r with
  | nil => rw [hc] at hp; cases hp
  | cons r rs => exact ⟨r, rs, rfl⟩
theorem sources_ne {n : Nw} (hn : rightN n = true) (q : Qy) : (∃ s ss, sourcesQ n q = s :: ss) ∧ (sourcesQ n q).length ≤ 8 := by
  obtain ⟨h, _⟩ := rightN_of hn
  have h0 := h.p0
  have h8 := h.p8
  unfold sourcesQ
  split
  · exact ⟨⟨_, _, rfl⟩, by simp⟩
  · constructor
    · cases hp : n.t.ports.length with
      | zero => exact absurd hp h0
      | succ k => exact ⟨_, _, by rw [List.range_succ_eq_map, List.map_cons]⟩
    · simpa using h8
/-- **A probe comes to the query's verdict, within the bound.** -/
theorem run_ends {n m : Nw} (f g : Fl) {q : Qy} (hn : rightN n = true) (hm : rightN m = true) (hq : RgOK q.r) (h : askedB n m q = true) :
    ∃ s ss T, sourcesQ n q = s :: ss ∧ (∃ r rs, partsQ n m q = r :: rs) ∧ Ends (pb0 n m f g q) (.one [] s) (runQ n m q).1 T ∧ 1 ≤ T ∧ (T : Int) ≤ boundQ n m q ∧ T ≤ 23184 := by
  obtain ⟨h1, h2⟩ := asked_iff.1 h
  obtain ⟨⟨s, ss, hs⟩, hs8⟩ := sources_ne hn q
  obtain ⟨r, rs, hp⟩ := parts_ne hn hm hq h1.le
  have hpl := parts_len hn hm q
  obtain ⟨hT, _⟩ := rightN_of hn
  obtain ⟨hT2, _⟩ := rightN_of hm
  have h8 := hT.p8
  obtain ⟨C, hC⟩ : ∃ C, C = if q.kind = 5 then (n.t.ports.length + 1) * 2 else n.t.ports.length + 1 := ⟨_, rfl⟩
  have hcost : ∀ s ∈ sourcesQ n q, ∀ a, costP n m q s a ≤ C := by
    intro s hs a
    have hr := source_ok h1 hs
    have p1 := path_le hT hr _ (Way.start n a s) rfl
    unfold costP
    by_cases k : q.kind = 5
    · have hr' : 0 ≤ s ∧ s < m.t.ports.length := by rw [← h2 k]; exact hr
      have p2 := path_le hT2 hr' _ (Way.start m a s) rfl
      rw [← h2 k] at p2
      rw [hC, if_pos k, if_pos k]; omega
    · rw [hC, if_neg k, if_neg k]; omega
  obtain ⟨T, e1, e2, e3⟩ := ends_run (X := pb0 n m f g q) (C := C) (by show partsQ n m q ≠ []; rw [hp]; simp) hcost ss s (partsQ n m q) (by rw [hp]; simp) (by show s ∈ sourcesQ n q; rw [hs]; simp) (fun x hx => by show x ∈ sourcesQ n q; rw [hs]; simp [hx])
  have e3 : T ≤ ((partsQ n m q).length + ss.length * (partsQ n m q).length) * C := e3
  have hlen : (sourcesQ n q).length = ss.length + 1 := by rw [hs]; rfl
  have hprod : ((partsQ n m q).length + ss.length * (partsQ n m q).length) * C = (sourcesQ n q).length * (partsQ n m q).length * C := by
    have : (ss.length + 1) * (partsQ n m q).length = (partsQ n m q).length + ss.length * (partsQ n m q).length := by rw [Nat.add_mul, Nat.one_mul, Nat.add_comm]
    rw [hlen, this]
  rw [hprod] at e3
  refine ⟨s, ss, T, hs, ⟨r, rs, hp⟩, ?_, e2, ?_, ?_⟩
  · have e : (runQ n m q).1 = (seekF n m q s (partsQ n m q)).getD ((seeksF n m q (partsQ n m q) ss).getD allV) := by
      rw [run_pb h, hs, seeksF]
      cases seekF n m q s (partsQ n m q) <;> rfl
    rw [e]
    have e4 : pb0 n m f g q = { pb0 n m f g q with S := s :: ss, P := partsQ n m q } := by rw [← hs]; rfl
    rw [e4]
    exact e1
  · have hb : boundQ n m q = (((sourcesQ n q).length * (partsQ n m q).length * C : Nat) : Int) := by
      unfold boundQ
      rw [if_pos h, hC]
      by_cases k : q.kind = 5
      · rw [if_pos k, if_pos k, ← Nat.mul_assoc]; simp [Int.natCast_mul]
      · rw [if_neg k, if_neg k]; simp [Int.natCast_mul]
    rw [hb]; exact_mod_cast e3
  · have hc18 : C ≤ 18 := by rw [hC]; split <;> omega
    have := Nat.mul_le_mul (Nat.mul_le_mul hs8 hpl) hc18
    omega
end Go.Proofs.Ytanimmdlgmkmkaa.Av


namespace Go.Proofs.Ytanimmdlgmkmkaa.Av.Zn
open Go
set_option linter.unusedSimpArgs false
set_option linter.unusedVariables false
set_option maxRecDepth 100000

attribute [ext] Rg
def zAV (z : List Rg) (full : Bool) : AV := .sl 2 (z.map rgAV) full

end Go.Proofs.Ytanimmdlgmkmkaa.Av.Zn


/- Zones: the functions that only look. -/
namespace Go.Proofs.Ytanimmdlgmkmkaa.Av.Zn
open Go
set_option linter.unusedSimpArgs false
set_option linter.unusedVariables false
set_option maxRecDepth 100000
set_option pp.maxSteps 300

/-- The bounds of a range's ends. -/
def _root_.Go.Proofs.Ytanimmdlgmkmkaa.Av.Rg.In (r : Rg) : Prop := 0 ≤ r.lo ∧ r.lo < 4294967296 ∧ 0 ≤ r.hi ∧ r.hi < 4294967296
def InZ (z : List Rg) : Prop := ∀ r ∈ z, r.In
def okAt (z : List Rg) (i : Nat) : Bool :=
  match z[i]? with
  | some r => decide (r.lo ≤ r.hi) && (i == 0 || match z[i - 1]? with | some p => decide (p.hi + 1 < r.lo) | none => true)
  | none => true
def rightB (z : List Rg) : Bool := (List.range z.length).all (okAt z)
end Go.Proofs.Ytanimmdlgmkmkaa.Av.Zn


/- Zones: more functions that only look. -/
namespace Go.Proofs.Ytanimmdlgmkmkaa.Av.Zn
open Go
set_option linter.unusedSimpArgs false
set_option linter.unusedVariables false
set_option maxRecDepth 100000
set_option pp.maxSteps 300

def lastHi (z : List Rg) (i : Nat) : Int := match i with | 0 => -2 | k + 1 => match z[k]? with | some r => r.hi | none => -2

def leastA (z : List Rg) : AV := match z with | [] => .tup [.raw (.int .u32 0), .raw (.bool false)] | r :: _ => .tup [.raw (.int .u32 r.lo), .raw (.bool true)]
def hasB (z : List Rg) (a : Int) : Bool := z.any fun r => decide (r.lo ≤ a) && decide (a ≤ r.hi)
def countZ (z : List Rg) : Int := (z.map fun r => r.hi - r.lo + 1).sum
end Go.Proofs.Ytanimmdlgmkmkaa.Av.Zn


/- Zones: searching. -/
namespace Go.Proofs.Ytanimmdlgmkmkaa.Av.Zn
open Go
set_option linter.unusedSimpArgs false
set_option linter.unusedVariables false
set_option maxRecDepth 100000
set_option pp.maxSteps 300

def cmpI (a b : Int) : Int := if a < b then -1 else if b < a then 1 else 0
/-- Where what is searched begins. -/
def firstGe (c : Rg → Int) (z : List Rg) : Nat := z.findIdx fun r => decide (0 ≤ c r)
end Go.Proofs.Ytanimmdlgmkmkaa.Av.Zn


/- Iterators: collecting what one yields. -/
namespace Go.Proofs.Ytanimmdlgmkmkaa.Av.Zn
open Go
set_option linter.unusedSimpArgs false
set_option linter.unusedVariables false
set_option maxRecDepth 100000
set_option pp.maxSteps 300

/-- All objects but i are as they were. -/
structure But (i : Id) (σ τ : St) : Prop where
  m : ∀ l o, l ≠ i → σ.m l = some o → τ.m l = some o
  nx : ∀ s, σ.nx s ≤ τ.nx s

end Go.Proofs.Ytanimmdlgmkmkaa.Av.Zn


namespace Go.Proofs.Ytanimmdlgmkmkaa.Av.Zn
open Go
set_option linter.unusedSimpArgs false
set_option linter.unusedVariables false
set_option maxRecDepth 100000

end Go.Proofs.Ytanimmdlgmkmkaa.Av.Zn


/- Zones in plain Lean: a right zone is known by what it has; joining cuts; merging; both; not. -/
namespace Go.Proofs.Ytanimmdlgmkmkaa.Av.Zn
set_option linter.unusedSimpArgs false
set_option linter.unusedVariables false

def MZ (z : List Rg) (a : Int) : Prop := ∃ r ∈ z, r.lo ≤ a ∧ a ≤ r.hi
theorem mz_nil {a : Int} : ¬ MZ [] a := fun ⟨_, h, _⟩ => by cases h
theorem mz_cons {r : Rg} {z : List Rg} {a : Int} : MZ (r :: z) a ↔ (r.lo ≤ a ∧ a ≤ r.hi) ∨ MZ z a := by
  constructor
  · rintro ⟨s, h, k⟩
    rcases List.mem_cons.1 h with rfl | h
    · exact .inl k
    · exact .inr ⟨s, h, k⟩
  · rintro (h | ⟨s, h, k⟩)
    · exact ⟨r, by simp, h⟩
    · exact ⟨s, by simp [h], k⟩
/-- Right, beginning above b + 1. -/
def RZ : Int → List Rg → Prop
  | _, [] => True
  | b, r :: z => b < r.lo ∧ r.lo ≤ r.hi ∧ RZ (r.hi + 1) z
theorem RZ.gt : ∀ {z : List Rg} {b a : Int}, RZ b z → MZ z a → b < a
  | [], _, _, _, h => absurd h mz_nil
  | r :: z, b, a, k, h => by
    rcases mz_cons.1 h with h | h
    · have := k.1; omega
    · have := RZ.gt k.2.2 h; have := k.1; have := k.2.1; omega
theorem RZ.ext : ∀ {x y : List Rg} {b c : Int}, RZ b x → RZ c y → (∀ a, MZ x a ↔ MZ y a) → x = y
  | [], [], _, _, _, _, _ => rfl
  | [], s :: y, _, _, _, k, h => absurd ((h s.lo).2 (mz_cons.2 (.inl ⟨Int.le_refl _, k.2.1⟩))) mz_nil
  | r :: x, [], _, _, k, _, h => absurd ((h r.lo).1 (mz_cons.2 (.inl ⟨Int.le_refl _, k.2.1⟩))) mz_nil
  | r :: x, s :: y, b, c, k, l, h => by
    obtain ⟨k1, k2, k3⟩ := k
    obtain ⟨l1, l2, l3⟩ := l
    have gx : ∀ {a}, MZ x a → r.hi + 1 < a := fun h => RZ.gt k3 h
    have gy : ∀ {a}, MZ y a → s.hi + 1 < a := fun h => RZ.gt l3 h
    have hlo : r.lo = s.lo := by
      have h1 := (h r.lo).1 (mz_cons.2 (.inl ⟨Int.le_refl _, k2⟩))
      have h2 := (h s.lo).2 (mz_cons.2 (.inl ⟨Int.le_refl _, l2⟩))
      rcases mz_cons.1 h1 with h1 | h1 <;> rcases mz_cons.1 h2 with h2 | h2
      · omega
      · have := gx h2; omega
      · have := gy h1; omega
      · have := gx h2; have := gy h1; omega
    have hhi : r.hi = s.hi := by
      rcases Int.lt_trichotomy r.hi s.hi with hl | hl | hl
      · have h1 := (h (r.hi + 1)).2 (mz_cons.2 (.inl ⟨by omega, by omega⟩))
        rcases mz_cons.1 h1 with h1 | h1
        · omega
        · have := gx h1; omega
      · exact hl
      · have h1 := (h (s.hi + 1)).1 (mz_cons.2 (.inl ⟨by omega, by omega⟩))
        rcases mz_cons.1 h1 with h1 | h1
        · omega
        · have := gy h1; omega
    have he : r = s := Rg.ext hlo hhi
    subst he
    congr 1
    refine RZ.ext k3 l3 fun a => ⟨fun ha => ?_, fun ha => ?_⟩
    · rcases mz_cons.1 ((h a).1 (mz_cons.2 (.inr ha))) with h1 | h1
      · have := gx ha; omega
      · exact h1
    · rcases mz_cons.1 ((h a).2 (mz_cons.2 (.inr ha))) with h1 | h1
      · have := gy ha; omega
      · exact h1

theorem RZ.at : ∀ {z : List Rg} {b : Int}, RZ b z → ∀ i r, z[i]? = some r → b < r.lo ∧ r.lo ≤ r.hi ∧ ∀ s, z[i + 1]? = some s → r.hi + 1 < s.lo
  | [], _, _, _, _, h => by simp at h
  | r :: z, b, k, 0, s, h => by
    simp at h; subst h
    refine ⟨k.1, k.2.1, fun s hs => ?_⟩
    cases z with
    | nil => simp at hs
    | cons t z => simp at hs; subst hs; exact k.2.2.1
  | r :: z, b, k, i + 1, s, h => by
    have := RZ.at k.2.2 i s (by simpa using h)
    refine ⟨by have := k.1; have := k.2.1; omega, this.2.1, fun t ht => this.2.2 t (by simpa using ht)⟩
/-! ### Merging what is sorted -/
def mg : Rg → List Rg → List Rg
  | r, [] => [r]
  | r, x :: l => if x.lo ≤ r.hi + 1 then mg ⟨r.lo, max r.hi x.hi⟩ l else r :: mg x l
def mergeZ : List Rg → List Rg
  | [] => []
  | r :: l => mg r l
/-! ### Both, and not -/
def andZ : List Rg → List Rg → List Rg
  | r :: x, s :: y => (if max r.lo s.lo ≤ min r.hi s.hi then [⟨max r.lo s.lo, min r.hi s.hi⟩] else []) ++ if r.hi < s.hi then andZ x (s :: y) else andZ (r :: x) y
  | _, _ => []
termination_by x y => x.length + y.length
def notZ : Int → List Rg → List Rg
  | b, [] => if b ≤ 4294967295 then [⟨b, 4294967295⟩] else []
  | b, r :: z => (if b < r.lo then [⟨b, r.lo - 1⟩] else []) ++ notZ (r.hi + 1) z
end Go.Proofs.Ytanimmdlgmkmkaa.Av.Zn


/- Queries: the law QueryPart walked. -/
namespace Go.Proofs.Ytanimmdlgmkmkaa.Av
open Go
set_option linter.unusedSimpArgs false
set_option linter.unusedVariables false
set_option maxRecDepth 100000
set_option maxHeartbeats 4000000
set_option pp.maxSteps 600

theorem fits12_right' {n m : Nw} {q : Qy} (h : fits12 n m q = true) : rightN n = true ∧ rightN m = true := by
  unfold fits12 fits09 at h
  simp only [Bool.and_eq_true] at h
  exact ⟨h.1.2.2.2, h.2.1.2.2.2⟩
theorem run_len (n m : Nw) (q : Qy) : (runQ n m q).1.tr.path.length ≤ 2 + 2 * n.t.links.length := by
  unfold runQ
  split
  · simp [noTk]
  · split
    · rename_i v h
      obtain ⟨d, _, p, _, rfl, _⟩ := seeks_some h
      exact traceR_len n d p.lo
    · simp [noTk]
end Go.Proofs.Ytanimmdlgmkmkaa.Av

