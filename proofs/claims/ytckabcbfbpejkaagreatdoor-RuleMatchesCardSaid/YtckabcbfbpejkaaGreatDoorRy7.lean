/- Rules: the laws RuleTexts, RuleMatches. Part 7 of 22: AvExec, AvReg, AvCall. -/
import Derived.Test.YtckabcbfbpejkaaGreatDoorRy2
import Derived.Test.YtckabcbfbpejkaaGreatDoorRy6
import Derived.TacticsIn
import Derived.RangeFuncLeaves
import Derived.RangeFuncCalls
namespace Go.Proofs.YtckabcbfbpejkaaGreatDoor.Av
open Go
set_option linter.unusedSimpArgs false
set_option linter.unusedVariables false
def Fw (r : Option Nat) : Fence := { fn := fun _ => True, depth := none, alive := false, round := r }
def zie (N : Nat) (S : Ctx) (K : Exit → zn → St → Prop) : Exit → Act → World → Prop :=
  fun e a' w' => ∃ S' A' σ', S'.w = w' ∧ Ev S S' ∧ SRel σ' S' ∧ TRel N S' A' a' ∧ K e A' σ'
def AWP (P : Program) (r : Option Nat) (N : Nat) (c : Code) (K : Exit → zn → St → Prop) (A : zn) (σ : St) : Prop :=
  ∀ S a, SRel σ S → TRel N S A a → c.wpIn (Fw r) 0 P (zie N S K) a S.w
def zfM (P : Program) (f : FuncId) : Prop := ∀ args w, (callFunc f args).run P w = .ok (.enter f args) w
def ACalls (P : Program) (f : FuncId) (args : List AV) (σ : St) (K : AV → St → Prop) : Prop :=
  zfM P f ∧ ∀ S vs, SRel σ S → LRel S args vs →
    CallsIn (Fw none) 0 P f vs.toArray S.w (fun e w' => ∃ S' σ' r v, e = .returned v ∧ S'.w = w' ∧ Ev S S' ∧ SRel σ' S' ∧ VRel S' r v ∧ K r σ')
theorem ACalls.mono {P : Program} {f : FuncId} {args : List AV} {σ : St} {K K' : AV → St → Prop} (h : ACalls P f args σ K) (hk : ∀ r σ', K r σ' → K' r σ') : ACalls P f args σ K' :=
  ⟨h.1, fun S vs hS hl => (h.2 S vs hS hl).mono fun e w' ⟨S', σ', r, v, h1, h2, h3, h4, h5, h6⟩ => ⟨S', σ', r, v, h1, h2, h3, h4, h5, hk _ _ h6⟩⟩
theorem AWP.mono {P : Program} {r : Option Nat} {N : Nat} {c : Code} {K K' : Exit → zn → St → Prop} {A : zn} {σ : St} (h : AWP P r N c K A σ) (hk : ∀ e A σ, K e A σ → K' e A σ) : AWP P r N c K' A σ :=
  fun S a hS hT => wpIn_mono (h S a hS hT) fun e a' w' ⟨S', A', σ', h1, h2, h3, h4, h5⟩ => ⟨S', A', σ', h1, h2, h3, h4, hk _ _ _ h5⟩
section
variable {P : Program} {r : Option Nat} {N : Nat} {K : Exit → zn → St → Prop} {A : zn} {σ : St}
theorem AWP.after {c : Code} (h : AWP P r N c K A σ) {S S' : Ctx} {a : Act} (k : Ev S S') (hS : SRel σ S') (hT : TRel N S' A a) : c.wpIn (Fw r) 0 P (zie N S K) a S'.w :=
  wpIn_mono (h S' a hS hT) fun e a' w' ⟨S2, A', σ', h1, h2, h3, h4, h5⟩ => ⟨S2, A', σ', h1, k.trans h2, h3, h4, h5⟩
def za8 (K1 : zn → St → Prop) (K : Exit → zn → St → Prop) : Exit → zn → St → Prop
  | .normal, A, σ => K1 A σ
  | e, A, σ => K e A σ
theorem zv {x y : Code} (h : AWP P r N x (za8 (AWP P r N y K) K) A σ) : AWP P r N (.seq x y) K A σ := by
  intro S a hS hT
  refine wpIn_seq (wpIn_mono (h S a hS hT) ?_)
  rintro e a' w' ⟨S', A', σ', rfl, h2, h3, h4, h5⟩
  cases e with
  | normal => exact AWP.after h5 h2 h3 h4
  | _ => exact ⟨S', A', σ', rfl, h2, h3, h4, h5⟩
theorem zqH {x y : Code} (h : ∀ K1 : zn → St → Prop, (∀ A σ, AWP P r N y K A σ → K1 A σ) → AWP P r N x (za8 K1 K) A σ) : AWP P r N (.seq x y) K A σ :=
  zv (h _ fun _ _ h => h)
theorem zm9 (h : K .normal A σ) : AWP P r N .skip K A σ := fun S a hS hT => wpIn_skip ⟨S, A, σ, rfl, Ev.refl S, hS, hT, h⟩
theorem zqI {l : Nat} (h : K .normal A σ) : AWP P r N (.label l) K A σ := fun S a hS hT => wpIn_label ⟨S, A, σ, rfl, Ev.refl S, hS, hT, h⟩
theorem zla (h : K .ret A σ) : AWP P r N .ret K A σ := fun S a hS hT => wpIn_ret ⟨S, A, σ, rfl, Ev.refl S, hS, hT, h⟩
theorem zna {id : Nat} (h : K (.exit id) A σ) : AWP P r N (.exit id) K A σ := fun S a hS hT => wpIn_exit ⟨S, A, σ, rfl, Ev.refl S, hS, hT, h⟩
def zee (v : AV) (yes no : Prop) : Prop :=
  match v with
  | .raw (.bool t) => (t = true → yes) ∧ (t = false → no)
  | _ => False
theorem zgV {c : Operand} {x y : Code} (h : zee (zd A c) (AWP P r N x K A σ) (AWP P r N y K A σ)) : AWP P r N (.cond c x y) K A σ := by
  intro S a hS hT
  unfold zee at h
  split at h
  · rename_i t ht
    have := hT.eval c
    rw [ht] at this
    simp only [VRel] at this
    exact wpIn_cond_split this (fun e => h.1 e S a hS hT) (fun e => h.2 e S a hS hT)
  · exact h.elim
def za5 (id : Nat) (K : Exit → zn → St → Prop) : Exit → zn → St → Prop
  | .exit id', A, σ => if id' = id then K .normal A σ else K (.exit id') A σ
  | e, A, σ => K e A σ
theorem zr {id : Nat} {c : Code} (h : AWP P r N c (za5 id K) A σ) : AWP P r N (.block id c) K A σ := by
  intro S a hS hT
  refine wpIn_block (wpIn_mono (h S a hS hT) ?_)
  rintro e a' w' ⟨S', A', σ', h1, h2, h3, h4, h5⟩
  cases e with
  | exit id' =>
    simp only [za5] at h5
    simp only [Exit.inBlock]
    split
    · rename_i e; rw [if_pos e] at h5; exact ⟨S', A', σ', h1, h2, h3, h4, h5⟩
    · rename_i e; rw [if_neg e] at h5; exact ⟨S', A', σ', h1, h2, h3, h4, h5⟩
  | _ => exact ⟨S', A', σ', h1, h2, h3, h4, h5⟩
theorem least {p : Nat → Prop} (h : ∃ n, p n) : ∃ n, p n ∧ ∀ m, p m → n ≤ m := by
  obtain ⟨n, hn⟩ := h
  induction n using Nat.strongRecOn with
  | _ n ih =>
    by_cases hx : ∃ m, m < n ∧ p m
    · obtain ⟨m, hm, hp⟩ := hx; exact ih m hm hp
    · exact ⟨n, hn, fun m hm => Nat.le_of_not_lt fun hl => hx ⟨m, hl, hm⟩⟩
theorem zjL {c : Code} (I : Nat → zn → St → Prop) (n : Nat) (h0 : I n A σ)
    (round : ∀ n A σ, I n A σ → AWP P r N c (za8 (fun A' σ' => ∃ n', n' < n ∧ I n' A' σ') K) A σ) : AWP P r N (.loop c) K A σ := by
  intro S a hS hT
  classical
  let J : Nat → Act → World → Prop := fun n a' w' => ∃ S' A' σ', S'.w = w' ∧ Ev S S' ∧ SRel σ' S' ∧ TRel N S' A' a' ∧ I n A' σ'
  let μ : Act → World → Nat := fun a' w' => if h : ∃ n, J n a' w' then Classical.choose (least h) else 0
  have hμ : ∀ n a' w', J n a' w' → μ a' w' ≤ n := fun n a' w' h => by
    have hx : ∃ n, J n a' w' := ⟨n, h⟩
    simp only [μ, hx, dif_pos]
    exact (Classical.choose_spec (least hx)).2 n h
  have hJ : ∀ a' w', (∃ n, J n a' w') → J (μ a' w') a' w' := fun a' w' h => by
    simp only [μ, h, dif_pos]
    exact (Classical.choose_spec (least h)).1
  refine wpIn_loop (fun a' w' => ∃ n, J n a' w') μ ⟨n, S, A, σ, rfl, Ev.refl S, hS, hT, h0⟩ ?_
  intro a' w' hex
  obtain ⟨S', A', σ', rfl, h2, h3, h4, h5⟩ := hJ a' w' hex
  refine wpIn_mono (AWP.after (round _ A' σ' h5) h2 h3 h4) ?_
  rintro e a2 w2 ⟨S2, A2, σ2, rfl, k2, k3, k4, k5⟩
  cases e with
  | normal =>
    obtain ⟨n', hn, hI⟩ := k5
    have hj : J n' a2 S2.w := ⟨S2, A2, σ2, rfl, k2, k3, k4, hI⟩
    exact ⟨⟨n', hj⟩, Nat.lt_of_le_of_lt (hμ n' a2 S2.w hj) hn⟩
  | _ => exact ⟨S2, A2, σ2, rfl, k2, k3, k4, k5⟩
end
end Go.Proofs.YtckabcbfbpejkaaGreatDoor.Av
namespace Go.Proofs.YtckabcbfbpejkaaGreatDoor.Av
open Go
set_option linter.unusedSimpArgs false
set_option linter.unusedVariables false
def Res.go (slot : Nat) (σ : St) (K : AV → St → Prop) : Res → Prop
  | .val a => K a σ
  | .mk sz es v => K (v ⟨slot, σ.nx slot, sz⟩) (σ.new slot sz (.buf es))
  | .wr i es => K zS (σ.set i (.buf es))
  | .mv old es v => K (v ⟨slot, σ.nx slot, old.sz⟩) ((σ.del old).new slot old.sz (.buf es))
  | .mkm v => K (v ⟨slot, σ.nx slot, 0⟩) (σ.new slot 0 (.map []))
  | .wrm i ents => K zS (σ.set i (.map ents))
  | .wrv i es v => K v (σ.set i (.buf es))
  | .mko sz o v => K (v ⟨slot, σ.nx slot, sz⟩) (σ.new slot sz o)
  | .wro i o v => K v (σ.set i o)
def OK (x : Option Res) (K : Res → Prop) : Prop := match x with | some r => K r | none => False
def zcc (ops : List Oper) (o : Oper) : Option (Option Nat × Bool) := o.guard.map fun (j, b) => ((ops[j]?).bind (·.dst), b)
def zoA (ops : List Oper) : List (Option (Option Nat × Bool) × Oper) := ops.map fun o => (zcc ops o, o)
def zbp (g : Option (Option Nat × Bool)) (A : zn) (yes no : Prop) : Prop :=
  match g with
  | none => yes
  | some (none, _) => no
  | some (some t, b) => match A t with
    | .raw (.bool c) => (c = b → yes) ∧ (c ≠ b → no)
    | .raw (.tuple _) => no
    | _ => False
def zfN (i : Id) (L : LoopState → Option Code → Ob) (K : AV → St → Prop) : Exit → zn → St → Prop
  | .normal, _, σ => σ.m i = some (L .busy none) ∧ K (.raw (.bool true)) (σ.set i (L .ready none))
  | .ret, _, σ => σ.m i = some (L .busy none) ∧ K (.raw (.bool false)) (σ.set i (L .done (some .ret)))
  | .exit id, _, σ => σ.m i = some (L .busy none) ∧ K (.raw (.bool false)) (σ.set i (L .done (some (.exit id))))
  | .goto t, _, σ => σ.m i = some (L .busy none) ∧ K (.raw (.bool false)) (σ.set i (L .done (some (.goto t))))
  | _, _, _ => False
def params (n : Nat) (ps : List Tmp) (args : List AV) (A : zn) : zn := (ps.zip args).foldl (fun A p => put n A p.1 p.2) A
def YK (P : Program) (b : Nat) (args : List AV) (σ : St) (K : AV → St → Prop) : Prop :=
  ∃ i ps as bd n A0, σ.m i = some (.loop b ps as bd n A0 .ready none) ∧ args.length = ps.size ∧
    AWP P (some b) n as (za8 (fun A2 σ2 => σ2.m i = some (.loop b ps as bd n A0 .ready none) ∧
      AWP P (some b) n bd (zfN i (fun st pd => .loop b ps as bd n A0 st pd) K) A2 (σ2.set i (.loop b ps as bd n A0 .busy none))) (fun _ _ _ => False)) (params n ps.toList args A0) σ
theorem YK.mono {P : Program} {b : Nat} {args : List AV} {σ : St} {K K' : AV → St → Prop} (hk : ∀ v σ, K v σ → K' v σ) (h : YK P b args σ K) : YK P b args σ K' := by
  obtain ⟨i, ps, as, bd, n, A0, h1, h2, h3⟩ := h
  refine ⟨i, ps, as, bd, n, A0, h1, h2, h3.mono fun e A2 σ2 hx => ?_⟩
  cases e with
  | normal =>
    refine ⟨hx.1, hx.2.mono fun e A3 σ3 hy => ?_⟩
    cases e <;> first | exact ⟨hy.1, hk _ _ hy.2⟩ | exact hy
  | _ => exact hx
def ze4 (P : Program) (f : AV) (args : List AV) (σ : St) (K : AV → St → Prop) : Prop :=
  match f with
  | .fn (.func k) first caps => ACalls P k (first ++ args ++ caps) σ K
  | .fn (.yield b) [] [] => YK P b args σ K
  | _ => False
def zhx (P : Program) (N : Nat) (o : Oper) (A : zn) (σ : St) (K : zn → St → Prop) : Prop :=
  match o.op with
  | .call { callee := .value f, args, .. } => ze4 P (zd A f) (args.toList.map (zd A)) σ fun r σ' => K (zK N A o.dst r) σ'
  | op => OK (aop P σ.m (zd A) op) (Res.go (o.dst.getD 0) σ fun a σ' => K (zK N A o.dst a) σ')
def zgW (P : Program) (N : Nat) : List (Option (Option Nat × Bool) × Oper) → zn → St → (zn → St → Prop) → Prop
  | [], A, σ, K => K A σ
  | (g, o) :: rest, A, σ, K => zbp g A (zhx P N o A σ fun A' σ' => zgW P N rest A' σ' K) (zgW P N rest (zK N A o.dst zS) σ K)
theorem zmm {P : Program} {m : zL} {ρ : Operand → AV} {op : Op} {r : Res} (h : aop P m ρ op = some r) : ∀ c, op ≠ .defer c := by
  intro c e
  subst e
  simp [aop] at h
section
variable {P : Program} {r : Option Nat} {N : Nat} {A : zn} {σ : St}
theorem zcd {o : Oper} {w : World} {ρ : Operand → Value} : ∀ f, o.about P w ρ = some f → (Fw r).fn f := fun _ _ => trivial
theorem znb {o : Oper} {res : Res} {K : AV → St → Prop} {S : Ctx} {a : Act} (h : aop P σ.m (zd A) o.op = some res) (hk : Res.go (o.dst.getD 0) σ K res) (hS : SRel σ S) (hT : TRel N S A a)
    {next : Act → World → Prop} {Q : Exit → Act → World → Prop} (hn : ∀ S' σ' av v, Ev S S' → SRel σ' S' → VRel S' av v → K av σ' → next (a.put o.dst v) S'.w) : o.wpIn (Fw r) 0 P a S.w next Q := by
  refine ⟨zcd, ?_⟩
  rw [Oper.semAt_eq (Fw r).round a.eval o (zmm h)]
  have hrun := znY (P := P) hS.m (fun x => hT.eval x) (fun v => rfl) h
  have hfresh : ∀ sz, ¬ S.K ⟨o.dst.getD 0, σ.nx (o.dst.getD 0), sz⟩ := fun sz hK => by have := hS.kn _ hK; simp at this
  cases res with
  | val av =>
    obtain ⟨u, h1, h2⟩ := hrun
    rw [h1]
    exact hn S σ av u (Ev.refl S) hS h2 hk
  | mk sz es f =>
    obtain ⟨v, S', h1, h2, h3, h4, h5⟩ := hrun ⟨o.dst.getD 0, σ.nx (o.dst.getD 0), sz⟩ rfl (hfresh sz)
    rw [h1]
    refine hn S' (σ.new (o.dst.getD 0) sz (.buf es)) _ v h2 (SRelM.s (σ := σ.new (o.dst.getD 0) sz (.buf es)) h3 (hS.gl.ev h2) fun i hi => ?_) h4 hk
    rcases (h5 i).1 hi with hi | rfl
    · exact Nat.lt_of_lt_of_le (hS.kn i hi) (St.new_le _ _ _ _ _)
    · simp [St.new]
  | wr i es =>
    obtain ⟨h0, S', h1, h2, h3, h4⟩ := hrun
    rw [h1]
    refine hn S' (σ.set i (.buf es)) zS undef h2 (SRelM.s (σ := σ.set i (.buf es)) (h3.ext fun j => ?_) (hS.gl.ev h2) fun j hj => ?_) (by simp [zS, VRel]) hk
    · have : (σ.m i).isSome = true := Option.isSome_iff_ne_none.2 h0
      simp [St.set, zd1, this]
    · rw [h4] at hj; exact hS.kn j hj
  | mv old es f =>
    obtain ⟨v, S', h1, h2, h3, h4, h5⟩ := hrun.2 ⟨o.dst.getD 0, σ.nx (o.dst.getD 0), old.sz⟩ rfl (hfresh old.sz)
    rw [h1]
    refine hn S' ((σ.del old).new (o.dst.getD 0) old.sz (.buf es)) _ v h2 (SRelM.s (σ := (σ.del old).new (o.dst.getD 0) old.sz (.buf es)) h3 (hS.gl.ev h2) fun i hi => ?_) h4 hk
    rcases (h5 i).1 hi with hi | rfl
    · exact Nat.lt_of_lt_of_le (hS.kn i hi) (St.new_le (σ.del old) _ old.sz (.buf es) _)
    · simp [St.new, St.del]
  | mkm f =>
    obtain ⟨v, S', h1, h2, h3, h4, h5⟩ := hrun ⟨o.dst.getD 0, σ.nx (o.dst.getD 0), 0⟩ rfl (hfresh 0)
    rw [h1]
    refine hn S' (σ.new (o.dst.getD 0) 0 (.map [])) _ v h2 (SRelM.s (σ := σ.new (o.dst.getD 0) 0 (.map [])) h3 (hS.gl.ev h2) fun i hi => ?_) h4 hk
    rcases (h5 i).1 hi with hi | rfl
    · exact Nat.lt_of_lt_of_le (hS.kn i hi) (St.new_le _ _ _ _ _)
    · simp [St.new]
  | wrv i es av =>
    obtain ⟨h0, u, S', h1, h2, h3, h4, h5⟩ := hrun
    rw [h1]
    refine hn S' (σ.set i (.buf es)) av u h2 (SRelM.s (σ := σ.set i (.buf es)) (h3.ext fun j => ?_) (hS.gl.ev h2) fun j hj => ?_) h5 hk
    · have : (σ.m i).isSome = true := Option.isSome_iff_ne_none.2 h0
      simp [St.set, zd1, this]
    · rw [h4] at hj; exact hS.kn j hj
  | wrm i ents =>
    obtain ⟨h0, S', h1, h2, h3, h4⟩ := hrun
    rw [h1]
    refine hn S' (σ.set i (.map ents)) zS undef h2 (SRelM.s (σ := σ.set i (.map ents)) (h3.ext fun j => ?_) (hS.gl.ev h2) fun j hj => ?_) (by simp [zS, VRel]) hk
    · have : (σ.m i).isSome = true := Option.isSome_iff_ne_none.2 h0
      simp [St.set, zd1, this]
    · rw [h4] at hj; exact hS.kn j hj
  | mko sz ob f =>
    obtain ⟨v, S', h1, h2, h3, h4, h5⟩ := hrun ⟨o.dst.getD 0, σ.nx (o.dst.getD 0), sz⟩ rfl (hfresh sz)
    rw [h1]
    refine hn S' (σ.new (o.dst.getD 0) sz ob) _ v h2 (SRelM.s (σ := σ.new (o.dst.getD 0) sz ob) h3 (hS.gl.ev h2) fun i hi => ?_) h4 hk
    rcases (h5 i).1 hi with hi | rfl
    · exact Nat.lt_of_lt_of_le (hS.kn i hi) (St.new_le _ _ _ _ _)
    · simp [St.new]
  | wro i ob av =>
    obtain ⟨h0, u, S', h1, h2, h3, h4, h5⟩ := hrun
    rw [h1]
    refine hn S' (σ.set i ob) av u h2 (SRelM.s (σ := σ.set i ob) (h3.ext fun j => ?_) (hS.gl.ev h2) fun j hj => ?_) h5 hk
    · have : (σ.m i).isSome = true := Option.isSome_iff_ne_none.2 h0
      simp [St.set, zd1, this]
    · rw [h4] at hj; exact hS.kn j hj
theorem zlA {f : FuncId} {args : Array Value} {w : World} {R : Ending → World → Prop} (h : CallsIn (Fw none) 0 P f args w R) : CallsIn (Fw r) 0 P f args w R := by
  cases r with
  | none => exact h
  | some l => exact CallsIn.inRound l h
theorem ze5 {σ : St} {S : Ctx} (hS : SRel σ S) {i : Id} {b : Nat} {ps : Array Tmp} {as bd : Code} {n : Nat} {A : Nat → AV} {st : LoopState} {pd : Option Code} (hi : σ.m i = some (.loop b ps as bd n A st pd)) (st' : LoopState) (pd' : Option Code) :
    ∃ r : Loop, S.w.heap[b]? = some (.loop r) ∧ r.params = ps ∧ r.assign = as ∧ r.body = bd ∧ r.state = st ∧ r.pending = pd ∧ r.tmps.size = n ∧ (∀ t, VRel S (A t) (r.tmps.getD t undef)) ∧
      Ev S (S.at (S.w.putObj b (.loop { r with state := st', pending := pd' }))) ∧ SRel (σ.set i (.loop b ps as bd n A st' pd')) (S.at (S.w.putObj b (.loop { r with state := st', pending := pd' }))) := by
  obtain ⟨hK, hlt, hO, hmu, r, h1, h2, h3, h4, h5, h6, h7, h8⟩ := hS.live i _ hi
  rw [hmu] at hlt hO
  have hsame := World.putObj_heap_same (w := S.w) (o := .loop { r with state := st', pending := pd' }) hlt
  have hne : ∀ c, c ≠ b → (S.w.putObj b (.loop { r with state := st', pending := pd' })).heap[c]? = S.w.heap[c]? := fun c hc => World.putObj_heap_other hc
  have hcells : cellsOf (S.w.putObj b (.loop { r with state := st', pending := pd' })) b = cellsOf S.w b := by
    simp [cellsOf, World.shape?, hsame, h1]
  have k : Ev S (S.at (S.w.putObj b (.loop { r with state := st', pending := pd' }))) := Ev.write hO (by simp) hne hcells ⟨rfl, rfl, rfl⟩
  refine ⟨r, h1, h2, h3, h4, h5, h6, h7, h8, k, ⟨hS.kn, fun j o hj => ?_, fun j j' hj hj' e => ?_, hS.gl.ev k⟩⟩
  · by_cases e : j = i
    · subst e
      have : o = .loop b ps as bd n A st' pd' := by
        simp only [St.set, hi, Option.isSome_some, and_self, if_true, Option.some.injEq] at hj
        exact hj.symm
      subst this
      refine ⟨hK, by show S.mu j < (S.w.putObj b _).heap.size; rw [hmu, World.putObj_size]; exact hlt, by show S.O (S.mu j); rw [hmu]; exact hO, hmu, _, hsame, h2, h3, h4, rfl, rfl, h7, fun t => VRel.mono k.sub _ _ (h8 t)⟩
    · have hj : σ.m j = some o := by simpa [St.set, e] using hj
      obtain ⟨g1, g2, g3, g4⟩ := hS.live j o hj
      have hjb : S.mu j ≠ b := fun h => e (hS.inj j i (by rw [hj]; simp) (by rw [hi]; simp) (h.trans hmu.symm))
      exact ⟨g1, Nat.lt_of_lt_of_le g2 k.size, g3, OBRel.mono k g1 (hne _ hjb) g4⟩
  · have hn : ∀ j, (σ.set i (.loop b ps as bd n A st' pd')).m j ≠ none → σ.m j ≠ none := fun j hj => by
      by_cases e : j = i
      · subst e; rw [hi]; simp
      · simpa [St.set, e] using hj
    exact hS.inj j j' (hn j hj) (hn j' hj') e
theorem zhy {n : Nat} {S : Ctx} : ∀ {ps : List Tmp} {args : List AV} {vs : List Value} {A : zn} {a : Act}, TRel n S A a → LRel S args vs → TRel n S (params n ps args A) { a with tmps := (ps.zip vs).foldl (fun t p => t.setIfInBounds p.1 p.2) a.tmps }
  | [], args, vs, A, a, hT, hl => by simpa [params] using hT
  | p :: ps, [], vs, A, a, hT, hl => by
    simp only [LRel] at hl
    subst hl
    simpa [params] using hT
  | p :: ps, x :: args, vs, A, a, hT, hl => by
    simp only [LRel] at hl
    obtain ⟨v, vs, rfl, h1, h2⟩ := hl
    have := zhy (ps := ps) (hT.put (some p) h1) h2
    simpa [params, zK, Act.put] using this
theorem zmn {o : Oper} {f : Operand} {args : Array Operand} {ts : Array TypeId} (ho : o.op = .call { callee := .value f, args := args, argTypes := ts }) {K : AV → St → Prop} {S : Ctx} {a : Act} {b : Nat}
    (hf : zd A f = .fn (.yield b) [] []) (h : YK P b (args.toList.map (zd A)) σ K) (hS : SRel σ S) (hT : TRel N S A a)
    {next : Act → World → Prop} {Q : Exit → Act → World → Prop} (hn : ∀ S' σ' av v, Ev S S' → SRel σ' S' → VRel S' av v → K av σ' → next (a.put o.dst v) S'.w) : o.wpIn (Fw r) 0 P a S.w next Q := by
  refine ⟨zcd, ?_⟩
  rw [Oper.semAt_eq (Fw r).round a.eval o (fun c => by rw [ho]; simp)]
  obtain ⟨i, ps, as, bd, n, A0, hi, hlen, hw⟩ := h
  have hv := hT.eval f
  rw [hf] at hv
  simp only [VRel] at hv
  obtain ⟨l, m, e, h1, h2⟩ := hv
  simp only [LRel] at h1 h2
  have hl : l = #[] := by simpa using h1
  have hm : m = #[] := by simpa using h2
  subst hl; subst hm
  obtain ⟨hK, hlt, hO, hmu, rec, g1, g2, g3, g4, g5, g6, g7, g8⟩ := hS.live i _ hi
  have hargs : LRel S (args.toList.map (zd A)) (args.toList.map a.eval) := zd2 (fun x => hT.eval x) _
  have hsz : (args.map a.eval).size = rec.params.size := by rw [g2, ← hlen]; simp
  have hrun : (execOp a.eval o).run P S.w = .ok (.round b rec.fn ((rec.params.zip (args.map a.eval)).foldl (fun tmps (t, a) => tmps.setIfInBounds t a) rec.tmps) rec.assign rec.body) S.w := by
    simp only [execOp, ho, resolve, Sem.run_bind, Deferred.ofValue, e, Sem.run_pure, Result.andThen_ok, invoke]
    have := run_yield (P := P) (w := S.w) (args := args.map a.eval) g1 hsz
    simpa using this
  rw [hrun]
  refine ⟨fun h => by simp [Fw] at h, ?_⟩
  refine roundIn_of_wpIn (l := b) (by trivial) ?_
  have hT0 : TRel n S A0 { tmps := rec.tmps, defers := [] } := ⟨g7, g8, fun d hd => by simp at hd, by simp, hT.lim⟩
  have hT1 := zhy (ps := ps.toList) hT0 hargs
  have hfold : ((rec.params.zip (args.map a.eval)).foldl (fun tmps (t, a) => tmps.setIfInBounds t a) rec.tmps) = (ps.toList.zip (args.toList.map a.eval)).foldl (fun t p => t.setIfInBounds p.1 p.2) rec.tmps := by
    rw [g2, ← Array.foldl_toList]
    simp
  rw [hfold, g3, g4]
  refine wpIn_mono (hw S _ hS hT1) ?_
  rintro e' a1 w1 ⟨S1, A1, σ1, rfl, k1, hS1, hT1, hx⟩
  cases e' with
  | normal =>
    obtain ⟨hi1, hx⟩ := hx
    obtain ⟨r1, q1, q2, q3, q4, q5, q6, q7, q8, k2, hS2⟩ := ze5 hS1 hi1 .busy none
    refine ⟨_, run_beginRound q1 q5, ?_⟩
    have he : ({ r1 with state := .busy } : Loop) = { r1 with state := .busy, pending := none } := by rw [← q6]
    rw [he]
    refine wpIn_mono (hx _ a1 hS2 (hT1.mono k2)) ?_
    rintro e3 a3 w3 ⟨S3, A3, σ3, rfl, k3, hS3, hT3, hy⟩
    have fin : ∀ (pd : Option Code), σ3.m i = some (.loop b ps as bd n A0 .busy none) → K (.raw (.bool pd.isNone)) (σ3.set i (.loop b ps as bd n A0 (if pd.isNone then .ready else .done) pd)) →
        ∃ v w', (Instr.endRound b pd).run P S3.w = .ok v w' ∧ next (a.put o.dst v) w' := fun pd hi3 hK3 => by
      obtain ⟨r3, p1, p2, p3, p4, p5, p6, p7, p8, k4, hS4⟩ := ze5 hS3 hi3 (if pd.isNone then .ready else .done) pd
      exact ⟨_, _, run_endRound pd p1, hn _ _ _ _ (((k1.trans k2).trans k3).trans k4) hS4 (by simp only [VRel]) hK3⟩
    cases e3 with
    | normal => exact fin none hy.1 hy.2
    | ret => exact fin (some .ret) hy.1 hy.2
    | exit id => exact fin (some (.exit id)) hy.1 hy.2
    | goto t => exact fin (some (.goto t)) hy.1 hy.2
    | panic c => exact hy.elim
    | outgrown => exact hy.elim
  | _ => exact hx.elim
theorem znc {o : Oper} {f : Operand} {args : Array Operand} {ts : Array TypeId} (ho : o.op = .call { callee := .value f, args := args, argTypes := ts }) {K : AV → St → Prop} {S : Ctx} {a : Act}
    (h : ze4 P (zd A f) (args.toList.map (zd A)) σ K) (hS : SRel σ S) (hT : TRel N S A a)
    {next : Act → World → Prop} {Q : Exit → Act → World → Prop} (hn : ∀ S' σ' av v, Ev S S' → SRel σ' S' → VRel S' av v → K av σ' → next (a.put o.dst v) S'.w) : o.wpIn (Fw r) 0 P a S.w next Q := by
  unfold ze4 at h
  split at h
  · rename_i k first caps hf
    refine ⟨zcd, ?_⟩
    rw [Oper.semAt_eq (Fw r).round a.eval o (fun c => by rw [ho]; simp)]
    have hv := hT.eval f
    rw [hf] at hv
    simp only [VRel] at hv
    obtain ⟨l, m, e, h1, h2⟩ := hv
    obtain ⟨hent, hcall⟩ := h
    have hargs : LRel S (first ++ args.toList.map (zd A) ++ caps) (l.toList ++ args.toList.map a.eval ++ m.toList) := (h1.append (zd2 (fun x => hT.eval x) _)).append h2
    have hrun : (execOp a.eval o).run P S.w = .ok (.enter k (l.toList ++ args.toList.map a.eval ++ m.toList).toArray) S.w := by
      simp only [execOp, ho, resolve, Sem.run_bind, Deferred.ofValue, e, Sem.run_pure, Result.andThen_ok, invoke]
      rw [hent]
      congr 2
      apply Array.ext'
      simp
    rw [hrun]
    refine ⟨fun h => by simp [Fw] at h, ?_⟩
    have hc := hcall S _ hS hargs
    have hc' := zlA (r := r) hc
    refine hc'.mono ?_
    rintro e w' ⟨S', σ', r', v, rfl, rfl, k1, k2, k3, k4⟩
    exact hn S' σ' r' v k1 k2 k3 k4
  · rename_i b hf
    exact zmn ho hf h hS hT hn
  · exact h.elim
theorem zfO {o : Oper} {K : zn → St → Prop} {S : Ctx} {a : Act} (h : zhx P N o A σ K) (hS : SRel σ S) (hT : TRel N S A a)
    {next : Act → World → Prop} {Q : Exit → Act → World → Prop} (hn : ∀ S' σ' A' a', Ev S S' → SRel σ' S' → TRel N S' A' a' → K A' σ' → next a' S'.w) : o.wpIn (Fw r) 0 P a S.w next Q := by
  unfold zhx at h
  split at h
  · rename_i f args ts ho
    exact znc ho h hS hT fun S' σ' av v k1 k2 k3 k4 => hn S' σ' _ _ k1 k2 ((hT.mono k1).put o.dst k3) k4
  · unfold OK at h
    split at h
    · rename_i res hres
      exact znb hres h hS hT fun S' σ' av v k1 k2 k3 k4 => hn S' σ' _ _ k1 k2 ((hT.mono k1).put o.dst k3) k4
    · exact h.elim
theorem ze6 {ops : List Oper} {o : Oper} {yes no : Prop} {S : Ctx} {a : Act} (h : zbp (zcc ops o) A yes no) (hT : TRel N S A a) :
    (Region.wanted o (yielded ops.toArray a.tmps) = true ∧ yes) ∨ (Region.wanted o (yielded ops.toArray a.tmps) = false ∧ no) := by
  unfold zcc at h
  unfold Region.wanted
  cases hg : o.guard with
  | none => rw [hg] at h; exact .inl ⟨rfl, h⟩
  | some p =>
    obtain ⟨j, b⟩ := p
    rw [hg] at h
    simp only [Option.map_some] at h
    cases hd : (ops[j]?).bind (·.dst) with
    | none =>
      rw [hd] at h
      refine .inr ⟨?_, h⟩
      simp [yielded, hd]
    | some t =>
      rw [hd] at h
      simp only [zbp] at h
      have hv := hT.val t
      have hy : yielded ops.toArray a.tmps j = match a.tmps[t]? with | some (.bool b) => some b | _ => none := by
        unfold yielded; rw [List.getElem?_toArray, hd]; rfl
      split at h
      · rename_i c hc
        rw [hc] at hv
        simp only [VRel] at hv
        have ht : a.tmps[t]? = some (.bool c) := by
          by_cases hlt : t < a.tmps.size
          · rw [Array.getElem?_eq_getElem hlt]
            simp [Array.getD, hlt] at hv
            rw [hv]
          · simp [Array.getD, hlt, undef] at hv
        rw [ht] at hy
        by_cases e : c = b
        · exact .inl ⟨by simp [hy, e], h.1 e⟩
        · exact .inr ⟨by simp [hy, e], h.2 e⟩
      · rename_i l hc
        rw [hc] at hv
        simp only [VRel] at hv
        have ht : ∀ c, a.tmps[t]? ≠ some (.bool c) := fun c hc => by
          have hlt := (Array.getElem?_eq_some_iff.1 hc).1
          have h2 := (Array.getElem?_eq_some_iff.1 hc).2
          simp [Array.getD, hlt, h2] at hv
        have hy2 : yielded ops.toArray a.tmps j = none := by
          rw [hy]
          split
          · rename_i c hc; exact absurd hc (ht c)
          · rfl
        exact .inr ⟨by simp [hy2], h⟩
      · exact h.elim
theorem zgX {ops : List Oper} {K : zn → St → Prop} {Q : Exit → Act → World → Prop} : ∀ (l : List Oper) {A : zn} {σ : St} {S : Ctx} {a : Act}, zgW P N (l.map fun o => (zcc ops o, o)) A σ K → SRel σ S → TRel N S A a →
    (∀ S' σ' A' a', Ev S S' → SRel σ' S' → TRel N S' A' a' → K A' σ' → Q .normal a' S'.w) → wpListIn (Fw r) 0 P ops.toArray Q l a S.w
  | [], _, σ, S, a, h, hS, hT, hQ => hQ S σ _ a (Ev.refl S) hS hT h
  | o :: l, _, σ, S, a, h, hS, hT, hQ => by
    simp only [List.map_cons, zgW] at h
    unfold wpListIn
    rcases ze6 h hT with ⟨hw, h⟩ | ⟨hw, h⟩
    · rw [if_pos hw]
      exact zfO h hS hT fun S' σ' A' a' k1 k2 k3 k4 => zgX l k4 k2 k3 fun S2 σ2 A2 a2 q1 q2 q3 q4 => hQ S2 σ2 A2 a2 (k1.trans q1) q2 q3 q4
    · rw [if_neg (by simp [hw])]
      exact ⟨zcd, zgX l h hS (hT.put o.dst (by simp [zS, VRel])) hQ⟩
theorem zlB {K : Exit → zn → St → Prop} {id : Nat} {ops : List Oper} (h : zgW P N (zoA ops) A σ (K .normal)) : AWP P r N (.region id ops.toArray false) K A σ := by
  intro S a hS hT
  refine wpIn_region_list ?_
  have := zgX (P := P) (r := r) (Q := zie N S K) ops h hS hT fun S' σ' A' a' k1 k2 k3 k4 => ⟨S', A', σ', rfl, k1, k2, k3, k4⟩
  simpa using this
def zb2 (P : Program) (m : zL) (A : zn) : List ResultVar → Option (List AV)
  | [] => some []
  | .tmp t :: rs => (zb2 P m A rs).map (A t :: ·)
  | .cell a t :: rs => (zaF P m t (A a)).bind fun x => (zb2 P m A rs).map (x :: ·)
def zjM : List AV → AV
  | [x] => x
  | l => .tup l
def zaG (P : Program) (m : zL) (A : zn) (rs : Array ResultVar) : Option AV := (zb2 P m A rs.toList).map zjM
def zhz (a : Act) : ResultVar → Sem Value
  | .tmp t => pure (a.tmps.getD t undef)
  | .cell ad t => do loadVar t (← asAddr (a.tmps.getD ad undef))
theorem zlC (fn : Func) (a : Act) : results fn a.tmps = (do
    let vs ← fn.results.mapM (zhz a)
    pure (if h : vs.size = 1 then vs[0] else .tuple vs)) := by
  unfold results
  congr 1
theorem zkK {fn : Func} {S : Ctx} {a : Act} {x : AV} (h : zaG P σ.m A fn.results = some x) (hS : SRel σ S) (hT : TRel N S A a) : ∃ v, (results fn a.tmps).run P S.w = .ok v S.w ∧ VRel S x v := by
  unfold zaG at h
  simp only [Option.map_eq_some_iff] at h
  obtain ⟨xs, hxs, rfl⟩ := h
  have key : ∀ (rs : List ResultVar) (xs : List AV), zb2 P σ.m A rs = some xs → ∃ vs, (rs.mapM (zhz a)).run P S.w = .ok vs S.w ∧ LRel S xs vs := by
    intro rs
    induction rs with
    | nil => intro xs h; simp only [zb2, Option.some.injEq] at h; subst h; exact ⟨[], by simp, by simp [LRel]⟩
    | cons q rs ih =>
      intro xs h
      cases q with
      | tmp t =>
        simp only [zb2, Option.map_eq_some_iff] at h
        obtain ⟨ys, hys, rfl⟩ := h
        obtain ⟨vs, h1, h2⟩ := ih ys hys
        exact ⟨a.tmps.getD t undef :: vs, by simp only [List.mapM_cons, zhz, Sem.run_bind, Sem.run_pure, Result.andThen_ok, h1], by simp only [LRel]; exact ⟨_, _, rfl, hT.val t, h2⟩⟩
      | cell ad t =>
        simp only [zb2, Option.bind_eq_some_iff, Option.map_eq_some_iff] at h
        obtain ⟨y, hy, ys, hys, rfl⟩ := h
        obtain ⟨vs, h1, h2⟩ := ih ys hys
        obtain ⟨u, h3, h4⟩ := zhk (P := P) hS.m hy (hT.val ad)
        have h5 : (zhz a (.cell ad t)).run P S.w = .ok u S.w := by
          have hp : ∃ p, a.tmps.getD ad undef = .pointer (some p) := by
            have hv := hT.val ad
            cases hA : A ad <;> simp only [hA, zaF, reduceCtorEq] at hy <;> rw [hA] at hv <;> simp only [VRel] at hv
            · obtain ⟨b, o, e, _⟩ := hv; exact ⟨_, e⟩
            · exact ⟨_, hv.1⟩
          obtain ⟨p, hp⟩ := hp
          rw [hp] at h3
          simp only [zhz, hp]
          simpa [Instr.loadAt, Instr.sureAddr, asAddr] using h3
        exact ⟨u :: vs, by simp only [List.mapM_cons, Sem.run_bind, h5, Result.andThen_ok, h1, Sem.run_pure], by simp only [LRel]; exact ⟨_, _, rfl, h4, h2⟩⟩
  obtain ⟨vs, h1, h2⟩ := key fn.results.toList xs hxs
  refine ⟨if h : vs.toArray.size = 1 then vs.toArray[0] else .tuple vs.toArray, ?_, ?_⟩
  · rw [zlC]
    simp only [Sem.run_bind]
    rw [Array.mapM_eq_mapM_toList]
    simp only [Sem.run_map, h1, Result.andThen_ok, Sem.run_pure]
  · have hlen := h2.length
    unfold zjM
    split
    · simp only [LRel] at h2
      obtain ⟨v, vs', rfl, h3, rfl⟩ := h2
      simpa using h3
    · rename_i hne
      have : ¬ vs.toArray.size = 1 := by
        intro e
        rw [List.size_toArray, ← hlen] at e
        match xs, e with
        | [x], _ => exact hne x rfl
      rw [dif_neg this]
      simp only [VRel]
      exact ⟨_, rfl, by simpa using h2⟩
def zbB (args : List AV) : zn := fun t => args.getD t zS
theorem TRel.init {S : Ctx} {args : List AV} {vs : List Value} (h : LRel S args vs) {n : Nat} (hn : args.length ≤ n) (hlim : S.lim ≤ S.w.heap.size) :
    TRel n S (zbB args) { tmps := vs.toArray ++ Array.replicate (n - vs.toArray.size) undef, defers := [] } := by
  have hl := h.length
  refine ⟨by simp; omega, fun t => ?_, fun d hd => by simp at hd, by simp, hlim⟩
  unfold zbB
  by_cases ht : t < args.length
  · obtain ⟨v, hv, hr⟩ := h.get (List.getElem?_eq_getElem ht)
    have e1 : args.getD t zS = args[t] := by simp [List.getD, List.getElem?_eq_getElem ht]
    have ht2 : t < vs.length := by omega
    have e2 : (vs.toArray ++ Array.replicate (n - vs.toArray.size) undef).getD t undef = v := by
      rw [Array.getD_eq_getD_getElem?, Array.getElem?_append_left (by simpa using ht2)]
      simp [hv]
    rw [e1]
    show VRel S _ ((vs.toArray ++ Array.replicate (n - vs.toArray.size) undef).getD t undef)
    rw [e2]; exact hr
  · have e1 : args.getD t zS = zS := by simp [List.getD, List.getElem?_eq_none (Nat.le_of_not_lt ht)]
    have e2 : (vs.toArray ++ Array.replicate (n - vs.toArray.size) undef).getD t undef = undef := by
      rw [Array.getD_eq_getD_getElem?]
      by_cases h2 : t < n
      · rw [Array.getElem?_append_right (by simp; omega)]
        rw [Array.getElem?_replicate]
        split <;> rfl
      · rw [Array.getElem?_eq_none (by simp; omega)]; rfl
    rw [e1]
    show VRel S _ ((vs.toArray ++ Array.replicate (n - vs.toArray.size) undef).getD t undef)
    rw [e2]; simp [zS, VRel]
end
end Go.Proofs.YtckabcbfbpejkaaGreatDoor.Av
namespace Go.Proofs.YtckabcbfbpejkaaGreatDoor.Av
open Go
set_option linter.unusedSimpArgs false
set_option linter.unusedVariables false
section
variable {P : Program}
def zE (m' m : zL) : AV → AV
  | .rs i off len => match m' i, m i with
    | none, some (.buf es) => if off + len ≤ es.length then .sl i.sz ((es.drop off).take len) false else .rs i off len
    | _, _ => .rs i off len
  | .rp i k off => match m' i, m i with
    | none, some (.buf es) => match es[k]? with | some e => .pp e.cells off | none => .rp i k off
    | _, _ => .rp i k off
  | a => a
def zad (m' m : zL) : AV → AV
  | .agg cs => .agg (cs.map (zE m' m))
  | .tup vs => .tup (vs.map fun v => match v with | .agg cs => .agg (cs.map (zE m' m)) | v => zE m' m v)
  | a => zE m' m a
def Ctx.keep (S : Ctx) (m' : zL) : Ctx := { S with O := fun b => ∃ i, m' i ≠ none ∧ S.mu i = b }
theorem zcY {S : Ctx} {m m' : zL} (hm : SRelM m S) (hsub : ∀ i o, m' i = some o → m i = some o) : Ev S (S.keep m') where
  size := Nat.le_refl _
  heap := fun _ _ _ => rfl
  O := fun b _ ⟨i, hi, e⟩ => by
    obtain ⟨o, ho⟩ := Option.ne_none_iff_exists'.1 hi
    exact e ▸ (hm.live i o (hsub i o ho)).2.2.1
  mu := fun _ h => ⟨rfl, h⟩
  cells := fun _ _ => rfl
  lim := rfl
  io := ⟨rfl, rfl, rfl⟩
theorem zgY {S : Ctx} {m m' : zL} (hm : SRelM m S) (hsub : ∀ i o, m' i = some o → m i = some o) : SRelM m' (S.keep m') where
  live := fun i o hi => by
    obtain ⟨h1, h2, h3, h4⟩ := hm.live i o (hsub i o hi)
    exact ⟨h1, h2, ⟨i, by rw [hi]; simp, rfl⟩, OBRel.mono (zcY hm hsub) h1 rfl h4⟩
  inj := (hm.less hsub).inj
theorem zgy {S : Ctx} {m m' : zL} (hm : SRelM m S) (hsub : ∀ i o, m' i = some o → m i = some o) {i : Id} {o : Ob} (hi : m i = some o) (hn : m' i = none) : (S.keep m').frozen (S.mu i) := by
  refine ⟨(hm.live i o hi).2.1, fun ⟨j, hj, e⟩ => ?_⟩
  obtain ⟨o', ho'⟩ := Option.ne_none_iff_exists'.1 hj
  have := hm.inj j i (by rw [hsub j o' ho']; simp) (by rw [hi]; simp) e
  subst this
  exact hj hn
theorem zdA {S : Ctx} {m m' : zL} (hm : SRelM m S) (hsub : ∀ i o, m' i = some o → m i = some o) {a : AV} {v : Value} (h : VRel S a v) : VRel (S.keep m') (zE m' m a) v := by
  have hk : VRel (S.keep m') a v := VRel.mono (zcY hm hsub).sub _ _ h
  cases a with
  | rs i off len =>
    simp only [zE]
    split
    · rename_i es h1 h2
      split
      · rename_i hle
        simp only [VRel] at h
        obtain ⟨cap, rfl, q1, q2, q3, q4⟩ := h
        obtain ⟨_, _, _, c, t, _, _, hE⟩ := hm.live i _ h2
        have hlen : ((es.drop off).take len).length = len := by simp; omega
        simp only [VRel]
        refine ⟨_, cap, by rw [hlen], by rw [hlen]; exact q1, by simp, fun _ => ⟨S.mu i, off * i.sz, rfl, zgy hm hsub h2 h1, ?_⟩⟩
        have := ERel.mono (zcY hm hsub).sub (b := S.mu i) (fun o => rfl) _ _ ((hE.drop off).take len)
        simpa using this
      · exact hk
    · exact hk
  | rp i k off =>
    simp only [zE]
    split
    · rename_i es h1 h2
      split
      · rename_i e he
        simp only [VRel] at h
        obtain ⟨rfl, q4⟩ := h
        obtain ⟨_, _, _, c, t, _, _, hE⟩ := hm.live i _ h2
        simp only [VRel]
        refine ⟨S.mu i, k * i.sz, rfl, zgy hm hsub h2 h1, ?_⟩
        have := CRel.mono (zcY hm hsub).sub (b := S.mu i) (fun o => rfl) _ _ (hE.get he).2
        simpa using this
      · exact hk
    · exact hk
  | _ => exact hk
theorem zc7 {S : Ctx} {m m' : zL} (hm : SRelM m S) (hsub : ∀ i o, m' i = some o → m i = some o) : ∀ {as : List AV} {vs : List Value}, LRel S as vs → LRel (S.keep m') (as.map (zE m' m)) vs
  | [], _, h => by simpa only [LRel, List.map_nil] using h
  | a :: as, _, h => by
    simp only [LRel] at h
    obtain ⟨v, vs, rfl, h1, h2⟩ := h
    simp only [List.map_cons, LRel]
    exact ⟨v, vs, rfl, zdA hm hsub h1, zc7 hm hsub h2⟩
theorem zkL {S : Ctx} {m m' : zL} (hm : SRelM m S) (hsub : ∀ i o, m' i = some o → m i = some o) {a : AV} {v : Value} (h : VRel S a v) : VRel (S.keep m') (zad m' m a) v := by
  cases a with
  | agg cs =>
    simp only [zad, VRel] at h ⊢
    obtain ⟨l, e, hl⟩ := h
    exact ⟨l, e, zc7 hm hsub hl⟩
  | tup vs =>
    simp only [zad, VRel] at h ⊢
    obtain ⟨l, e, hl⟩ := h
    refine ⟨l, e, ?_⟩
    clear e
    revert hl
    generalize l.toList = ls
    intro hl
    induction vs generalizing ls with
    | nil => simpa only [LRel, List.map_nil] using hl
    | cons x vs ih =>
      simp only [LRel] at hl
      obtain ⟨u, us, rfl, h1, h2⟩ := hl
      simp only [List.map_cons, LRel]
      refine ⟨u, us, rfl, ?_, ih us h2⟩
      cases x with
      | agg cs =>
        simp only [VRel] at h1 ⊢
        obtain ⟨l, e, hl⟩ := h1
        exact ⟨l, e, zc7 hm hsub hl⟩
      | _ => exact zdA hm hsub h1
  | _ => exact zdA hm hsub h
def Weaker (x y : AV) : Prop := ∀ S v, VRel S x v → VRel S y v
theorem Weaker.refl (x : AV) : Weaker x x := fun _ _ h => h
def zlD (P : Program) (fn : Func) (K : AV → St → Prop) : Exit → zn → St → Prop := fun e A σ =>
  (e = .normal ∨ e = .ret) ∧ ∃ x, zaG P σ.m A fn.results = some x ∧ ∃ σ' : St, (∀ i o, σ'.m i = some o → σ.m i = some o) ∧ (∀ s, σ.nx s ≤ σ'.nx s) ∧ ∃ y, Weaker (zad σ'.m σ.m x) y ∧ K y σ'
theorem ziJ {F : Fence} {fn : Func} {R : Ending → World → Prop} {N : Nat} {A : zn} {σ : St} {a : Act} {x : AV} (hx : zaG P σ.m A fn.results = some x) {S0 : Ctx} (h0 : S0.lim = S0.w.heap.size) :
    ∀ (ds : List Deferred) (S : Ctx), (∀ d ∈ ds, ∃ D, d = { target := .collected D, args := #[] } ∧ S.frozen D ∧ S.lim ≤ D ∧ S.w.heap[D]? = some (.deferred (some []))) → ds.Nodup → Ev S0 S → SRel σ S → TRel N S A { a with defers := [] } →
      (∀ S' v, Ev S0 S' → SRel σ S' → VRel S' x v → R (.returned v) S'.w) → LeavesInM F 0 P fn a.tmps R ds .returning S.w
  | [], S, _, _, k, hS, hT, hR => by
    obtain ⟨v, h1, h2⟩ := zkK hx hS hT
    exact ⟨v, h1, hR S v k hS h2⟩
  | d :: ds, S, hd, hnd, k, hS, hT, hR => by
    obtain ⟨D, rfl, hf, hl, hh⟩ := hd d (by simp)
    refine ⟨by simp, .inl ⟨D, S.w.putObj D (.deferred none), rfl, run_takeDeferred hh, ?_⟩⟩
    have hne : ∀ b, b ≠ D → (S.w.putObj D (.deferred none)).heap[b]? = S.w.heap[b]? := fun b hb => World.putObj_heap_other hb
    have hsame := World.putObj_heap_same (o := .deferred none) hf.1
    have hcell : ∀ b o, (S.w.putObj D (.deferred none)).cell? ⟨b, o, none⟩ = S.w.cell? ⟨b, o, none⟩ := fun b o => by
      by_cases e : b = D
      · subst e; simp [World.cell?, hsame, hh]
      · exact World.cell?_of_block (hne b e)
    have hcells : ∀ b, cellsOf (S.w.putObj D (.deferred none)) b = cellsOf S.w b := fun b => by
      by_cases e : b = D
      · subst e; simp [cellsOf, World.shape?, hsame, hh]
      · exact zbQ (hne b e)
    have hsize : (S.w.putObj D (.deferred none)).heap.size = S.w.heap.size := by simp [World.putObj]
    have hsub : Sub S (S.at (S.w.putObj D (.deferred none))) :=
      ⟨fun b hb => ⟨by show b < (S.w.putObj D (.deferred none)).heap.size; rw [hsize]; exact hb.1, hb.2⟩, fun b o _ => hcell b o, fun _ h => ⟨rfl, h⟩, by show _ ≤ (S.w.putObj D (.deferred none)).heap.size; rw [hsize]; exact Nat.le_refl _, fun b _ => hcells b⟩
    have hlim : S0.w.heap.size ≤ D := by rw [← h0, ← k.lim]; exact hl
    have k' : Ev S0 (S.at (S.w.putObj D (.deferred none))) :=
      ⟨by show _ ≤ (S.w.putObj D (.deferred none)).heap.size; rw [hsize]; exact k.size, fun b hb hO => (hne b (by omega)).trans (k.heap b hb hO), k.O, k.mu, fun b hb => (hcells b).trans (k.cells b hb), k.lim, k.io⟩
    have hS' : SRel σ (S.at (S.w.putObj D (.deferred none))) := by
      have hgl : GlobOK (S.at (S.w.putObj D (.deferred none))) := fun b hb => by
        obtain ⟨f, c, t, fz, e, q⟩ := hS.gl b hb
        have hbD : b ≠ D := fun h => by rw [h, hh] at e; cases e
        exact ⟨hsub.fro b f, c, t, fz, (hne b hbD).trans e, q⟩
      refine ⟨hS.kn, fun i o hi => ?_, hS.inj, hgl⟩
      obtain ⟨h1, h2, h3, h4⟩ := hS.live i o hi
      have hiD : S.mu i ≠ D := fun e => hf.2 (e ▸ h3)
      refine ⟨h1, by show _ < (S.w.putObj D (.deferred none)).heap.size; rw [hsize]; exact h2, h3, ?_⟩
      exact OBRel.sub hsub h1 (hne _ hiD) h4
    have hT' : TRel N (S.at (S.w.putObj D (.deferred none))) A { a with defers := [] } := ⟨hT.size, fun t => VRel.mono hsub _ _ (hT.val t), fun d hd => by simp at hd, by simp, by show S.lim ≤ (S.w.putObj D (.deferred none)).heap.size; rw [hsize]; exact hT.lim⟩
    refine ziJ hx h0 ds _ (fun d' hd' => ?_) hnd.of_cons k' hS' hT' hR
    obtain ⟨D', rfl, q1, q2, q3⟩ := hd d' (by simp [hd'])
    have hDD : D' ≠ D := fun e => by
      subst e
      exact (List.nodup_cons.1 hnd).1 hd'
    exact ⟨D', rfl, hsub.fro D' q1, q2, (hne D' hDD).trans q3⟩
theorem zgz {f : FuncId} {fn : Func} {c : Code} {args : List AV} {σ : St} {K : AV → St → Prop} (hf : P.funcs[f]? = some fn) (hb : fn.body = some c) (he : zfM P f) (hn : args.length ≤ fn.ntmps)
    (h : AWP P none fn.ntmps c (zlD P fn K) (zbB args) σ) : ACalls P f args σ K := by
  refine ⟨he, fun S vs hS hl => ?_⟩
  refine callsIn_of_wp_marks hf hb trivial ?_ rfl
  let S0 : Ctx := { S with lim := S.w.heap.size }
  have hsub : Sub S S0 := ⟨fun _ h => h, fun _ _ _ => rfl, fun _ h => ⟨rfl, h⟩, Nat.le_refl _, fun _ _ => rfl⟩
  have hS0 : SRel σ S0 := ⟨hS.kn, fun i o hi => by
    obtain ⟨h1, h2, h3, h4⟩ := hS.live i o hi
    exact ⟨h1, h2, h3, OBRel.sub hsub h1 rfl h4⟩, hS.inj, hS.gl⟩
  refine wpIn_mono (h S0 _ hS0 (TRel.init (LRel.mono hsub _ _ hl) hn (Nat.le_refl _))) ?_
  rintro e a' w' ⟨S', A', σ', rfl, k, hS', hT', hE, x, hx, σ2, hs2, hnx, y, hy, hK⟩
  have fin : LeavesInM (Fw none) 0 P fn a'.tmps (fun e w' => ∃ S' σ' r v, e = .returned v ∧ S'.w = w' ∧ Ev S S' ∧ SRel σ' S' ∧ VRel S' r v ∧ K r σ') a'.defers .returning S'.w := by
    refine ziJ (F := Fw none) hx (S0 := S0) rfl a'.defers S' hT'.defers hT'.nodup k hS' ⟨hT'.size, hT'.val, fun d hd => by simp at hd, by simp, hT'.lim⟩ ?_
    intro S2 v k2 q1 q2
    have r1 := zcY q1.m hs2
    have r2 := zgY q1.m hs2
    have r3 := zkL q1.m hs2 q2
    have r4 : Ev S0 (S2.keep σ2.m) := k2.trans r1
    refine ⟨{ S2.keep σ2.m with lim := S.lim }, σ2, y, v, rfl, rfl, ⟨r4.size, r4.heap, r4.O, r4.mu, r4.cells, rfl, r4.io⟩, ?_, ?_, hK⟩
    · refine ⟨fun i hi => Nat.lt_of_lt_of_le (q1.kn i hi) (hnx _), fun i o hi => ?_, r2.inj, (show GlobOK (S2.keep σ2.m) from q1.gl.ev r1)⟩
      obtain ⟨h1, h2, h3, h4⟩ := r2.live i o hi
      refine ⟨h1, h2, h3, ?_⟩
      have hsub2 : Sub (S2.keep σ2.m) { S2.keep σ2.m with lim := S.lim } := ⟨fun _ h => h, fun _ _ _ => rfl, fun _ h => ⟨rfl, h⟩, Nat.le_refl _, fun _ _ => rfl⟩
      exact OBRel.sub hsub2 h1 rfl h4
    · have hsub2 : Sub (S2.keep σ2.m) { S2.keep σ2.m with lim := S.lim } := ⟨fun _ h => h, fun _ _ _ => rfl, fun _ h => ⟨rfl, h⟩, Nat.le_refl _, fun _ _ => rfl⟩
      exact VRel.mono hsub2 _ _ (hy _ _ r3)
  rcases hE with rfl | rfl <;> exact fin
def PCalls (P : Program) (f : FuncId) (args : List AV) (r : AV) : Prop := noIds r ∧ ∀ σ, ACalls P f args σ fun x σ' => x = r ∧ σ' = σ
theorem PCalls.use {f : FuncId} {args : List AV} {r : AV} (h : PCalls P f args r) {σ : St} {K : AV → St → Prop} (k : K r σ) : ACalls P f args σ K :=
  (h.2 σ).mono fun x σ' ⟨e, e2⟩ => by subst e; subst e2; exact k
theorem zmo {f : FuncId} {args : List AV} {r : AV} (hr : noIds r) (h : ∀ σ, ACalls P f args σ fun x σ' => x = r ∧ σ'.m = σ.m) : PCalls P f args r := by
  refine ⟨hr, fun σ => ⟨(h σ).1, fun S vs hS hl => ((h σ).2 S vs hS hl).mono ?_⟩⟩
  rintro e w' ⟨S', σ', x, v, rfl, rfl, k1, k2, k3, rfl, k4⟩
  refine ⟨S'.names S.K, σ, x, v, rfl, rfl, ⟨k1.size, k1.heap, k1.O, fun i hi => ⟨(k1.mu i hi).1, hi⟩, k1.cells, k1.lim, k1.io⟩, ⟨hS.kn, fun i o hi => ?_, ?_, k2.gl⟩, VRel.names _ _ k3 (hr.any _), rfl, rfl⟩
  · obtain ⟨h1, h2, h3, h4⟩ := k2.live i o (k4 ▸ hi)
    obtain ⟨g1, g2, g3, g4⟩ := hS.live i o hi
    exact ⟨g1, h2, h3, h4.names g4.ids⟩
  · rw [← k4]; exact k2.inj
theorem zb3 {f : FuncId} {fn : Func} {c : Code} (hf : P.funcs[f]? = some fn) (hname : (fn.name == "runtime.NumGoroutine") = false) (hb : fn.body = some c) : zfM P f := by
  intro args w
  have h1 : fn.name ≠ "runtime.NumGoroutine" := by simpa using hname
  simp [callFunc, hf, h1, hb, mark]
def zd3 (P : Program) (fn : Func) (σ0 : St) (r : AV) : Exit → zn → St → Prop := fun e A σ =>
  (e = .normal ∨ e = .ret) ∧ (∀ s, σ0.nx s ≤ σ.nx s) ∧ (∀ i, σ0.m i ≠ none → σ.m i = σ0.m i) ∧ ∃ x, zaG P σ.m A fn.results = some x ∧ Weaker (zad σ0.m σ.m x) r
theorem zkM {f : FuncId} {fn : Func} {c : Code} {args : List AV} {r : AV} (hf : P.funcs[f]? = some fn) (hb : fn.body = some c) (he : zfM P f) (hn : args.length ≤ fn.ntmps) (hr : noIds r)
    (h : ∀ σ, AWP P none fn.ntmps c (zd3 P fn σ r) (zbB args) σ) : PCalls P f args r := zmo hr fun σ =>
  zgz hf hb he hn ((h σ).mono fun e A σ' ⟨h1, h2, h3, x, h4, h5⟩ =>
    ⟨h1, x, h4, ⟨σ.m, σ'.nx, fun i hi => Nat.lt_of_lt_of_le (σ.wf i hi) (h2 _)⟩, fun i o hi => by rw [h3 i (by rw [show σ.m i = some o from hi]; simp)]; exact hi, fun _ => Nat.le_refl _, r, h5, rfl, rfl⟩)
mutual
def AV.plain : AV → Bool
  | .raw _ | .any => true
  | .agg cs | .tup cs => zcH cs
  | .ifc _ a => a.plain
  | .sl _ es _ => es.isEmpty
  | _ => false
def zcH : List AV → Bool
  | [] => true
  | a :: as => a.plain && zcH as
end
mutual
theorem VRel.plain {S S' : Ctx} : ∀ (a : AV) (v : Value), VRel S a v → a.plain = true → VRel S' a v
  | .raw _, _, hv, _ => by simpa only [VRel] using hv
  | .any, _, _, _ => by simp only [VRel]
  | .agg cs, _, hv, hp => by
    simp only [VRel] at hv ⊢; simp only [AV.plain] at hp
    obtain ⟨l, e, hl⟩ := hv
    exact ⟨l, e, LRel.plain cs _ hl hp⟩
  | .tup cs, _, hv, hp => by
    simp only [VRel] at hv ⊢; simp only [AV.plain] at hp
    obtain ⟨l, e, hl⟩ := hv
    exact ⟨l, e, LRel.plain cs _ hl hp⟩
  | .ifc t a, _, hv, hp => by
    simp only [VRel] at hv ⊢; simp only [AV.plain] at hp
    obtain ⟨v, e, h⟩ := hv
    exact ⟨v, e, VRel.plain a _ h hp⟩
  | .sl sz es full, _, hv, hp => by
    simp only [VRel] at hv ⊢; simp only [AV.plain, List.isEmpty_iff] at hp
    obtain ⟨base, cap, e, h1, h2, h3⟩ := hv
    exact ⟨base, cap, e, h1, h2, fun hne => absurd hp hne⟩
  | .pp _ _, _, _, hp | .rp _ _ _, _, _, hp | .rs _ _ _, _, _, hp | .fn _ _ _, _, _, hp | .mp _, _, _, hp => by simp [AV.plain] at hp
theorem LRel.plain {S S' : Ctx} : ∀ (as : List AV) (vs : List Value), LRel S as vs → zcH as = true → LRel S' as vs
  | [], _, hv, _ => by simpa only [LRel] using hv
  | a :: as, _, hv, hp => by
    simp only [LRel] at hv ⊢; simp only [zcH, Bool.and_eq_true] at hp
    obtain ⟨v, vs, e, h1, h2⟩ := hv
    exact ⟨v, vs, e, VRel.plain a _ h1 hp.1, LRel.plain as _ h2 hp.2⟩
end
def zjl (m : zL) (a b : AV) : Prop := b = a ∨ match a with
  | .rs i off len => ∃ es, m i = some (.buf es) ∧ off + len ≤ es.length ∧ b = .sl i.sz ((es.drop off).take len) false
  | .rp i k off => ∃ es e, m i = some (.buf es) ∧ es[k]? = some e ∧ b = .pp e.cells off
  | _ => False
def zcI (m : zL) : List AV → List AV → Prop
  | [], bs => bs = []
  | a :: as, bs => ∃ b bs', bs = b :: bs' ∧ zjl m a b ∧ zcI m as bs'
def zjm (m : zL) (a b : AV) : Prop := b = a ∨ match a with
  | .rs i off len => ∃ es, m i = some (.buf es) ∧ off + len ≤ es.length ∧ b = .sl i.sz ((es.drop off).take len) false
  | .rp i k off => ∃ es e, m i = some (.buf es) ∧ es[k]? = some e ∧ b = .pp e.cells off
  | .agg cs => ∃ bs, zcI m cs bs ∧ b = .agg bs
  | _ => False
def zce (m : zL) : List AV → List AV → Prop
  | [], bs => bs = []
  | a :: as, bs => ∃ b bs', bs = b :: bs' ∧ zjm m a b ∧ zce m as bs'
def Ctx.lent (S : Ctx) : Ctx := { S with O := fun _ => False }
theorem ze7 (S : Ctx) : Sub S S.lent := ⟨fun b h => ⟨h.1, fun h => h⟩, fun _ _ _ => rfl, fun _ h => ⟨rfl, h⟩, Nat.le_refl _, fun _ _ => rfl⟩
theorem zfP {S : Ctx} {m : zL} (hm : SRelM m S) {a b : AV} {v : Value} (hl : zjl m a b) (h : VRel S a v) : VRel S.lent b v := by
  have hk : VRel S.lent a v := VRel.mono (ze7 S) _ _ h
  rcases hl with rfl | hl
  · exact hk
  · cases a with
    | rs i off len =>
      obtain ⟨es, h1, hle, rfl⟩ := hl
      simp only [VRel] at h
      obtain ⟨cap, rfl, q1, q2, q3, q4⟩ := h
      obtain ⟨_, g2, _, c, t, _, _, hE⟩ := hm.live i _ h1
      have hlen : ((es.drop off).take len).length = len := by simp; omega
      simp only [VRel]
      refine ⟨_, cap, by rw [hlen], by rw [hlen]; exact q1, by simp, fun _ => ⟨S.mu i, off * i.sz, rfl, ⟨g2, fun h => h⟩, ?_⟩⟩
      have := ERel.mono (ze7 S) (b := S.mu i) (fun o => rfl) _ _ ((hE.drop off).take len)
      simpa using this
    | rp i k off =>
      obtain ⟨es, e, h1, he, rfl⟩ := hl
      simp only [VRel] at h
      obtain ⟨rfl, q4⟩ := h
      obtain ⟨_, g2, _, c, t, _, _, hE⟩ := hm.live i _ h1
      simp only [VRel]
      refine ⟨S.mu i, k * i.sz, rfl, ⟨g2, fun h => h⟩, ?_⟩
      have := CRel.mono (ze7 S) (b := S.mu i) (fun o => rfl) _ _ (hE.get he).2
      simpa using this
    | _ => exact hl.elim
theorem ziK {S : Ctx} {m : zL} (hm : SRelM m S) : ∀ {as bs : List AV} {vs : List Value}, zcI m as bs → LRel S as vs → LRel S.lent bs vs
  | [], _, _, hb, h => by simp only [zcI] at hb; subst hb; simpa only [LRel] using h
  | a :: as, _, _, hb, h => by
    simp only [zcI] at hb
    obtain ⟨b, bs, rfl, h1, h2⟩ := hb
    simp only [LRel] at h
    obtain ⟨v, vs, rfl, g1, g2⟩ := h
    simp only [LRel]
    exact ⟨v, vs, rfl, zfP hm h1 g1, ziK hm h2 g2⟩
theorem zmp {S : Ctx} {m : zL} (hm : SRelM m S) {a b : AV} {v : Value} (hl : zjm m a b) (h : VRel S a v) : VRel S.lent b v := by
  rcases hl with rfl | hl
  · exact VRel.mono (ze7 S) _ _ h
  · cases a with
    | rs i off len => exact zfP hm (.inr hl) h
    | rp i k off => exact zfP hm (.inr hl) h
    | agg cs =>
      obtain ⟨bs, h1, rfl⟩ := hl
      simp only [VRel] at h ⊢
      obtain ⟨l, rfl, h2⟩ := h
      exact ⟨l, rfl, ziK hm h1 h2⟩
    | _ => exact hl.elim
theorem ziL {S : Ctx} {m : zL} (hm : SRelM m S) : ∀ {as bs : List AV} {vs : List Value}, zce m as bs → LRel S as vs → LRel S.lent bs vs
  | [], _, _, hb, h => by simp only [zce] at hb; subst hb; simpa only [LRel] using h
  | a :: as, _, _, hb, h => by
    simp only [zce] at hb
    obtain ⟨b, bs, rfl, h1, h2⟩ := hb
    simp only [LRel] at h
    obtain ⟨v, vs, rfl, g1, g2⟩ := h
    simp only [LRel]
    exact ⟨v, vs, rfl, zmp hm h1 g1, ziL hm h2 g2⟩
theorem znd {m m' : zL} (h : ∀ i o, m i = some o → m' i = some o) {a b : AV} (hl : zjl m a b) : zjl m' a b := by
  refine hl.imp id fun hl => ?_
  cases a with
  | rs i off len => obtain ⟨es, h1, q⟩ := hl; exact ⟨es, h _ _ h1, q⟩
  | rp i k off => obtain ⟨es, e, h1, q⟩ := hl; exact ⟨es, e, h _ _ h1, q⟩
  | _ => exact hl
theorem zjN {m m' : zL} (h : ∀ i o, m i = some o → m' i = some o) : ∀ {as bs : List AV}, zcI m as bs → zcI m' as bs
  | [], _, hb => hb
  | a :: as, _, hb => by
    simp only [zcI] at hb ⊢
    obtain ⟨b, bs, e, h1, h2⟩ := hb
    exact ⟨b, bs, e, znd h h1, zjN h h2⟩
theorem zne {m m' : zL} (h : ∀ i o, m i = some o → m' i = some o) {a b : AV} (hl : zjm m a b) : zjm m' a b := by
  refine hl.imp id fun hl => ?_
  cases a with
  | rs i off len => obtain ⟨es, h1, q⟩ := hl; exact ⟨es, h _ _ h1, q⟩
  | rp i k off => obtain ⟨es, e, h1, q⟩ := hl; exact ⟨es, e, h _ _ h1, q⟩
  | agg cs => obtain ⟨bs, h1, q⟩ := hl; exact ⟨bs, zjN h h1, q⟩
  | _ => exact hl
theorem zjO {m m' : zL} (h : ∀ i o, m i = some o → m' i = some o) : ∀ {as bs : List AV}, zce m as bs → zce m' as bs
  | [], _, hb => hb
  | a :: as, _, hb => by
    simp only [zce] at hb ⊢
    obtain ⟨b, bs, e, h1, h2⟩ := hb
    exact ⟨b, bs, e, zne h h1, zjO h h2⟩
theorem zhA {m m' : zL} : ∀ {as bs : List AV}, zx (fun i => m' i = m i) as → zcI m' as bs → zcI m as bs
  | [], _, _, hb => hb
  | a :: as, _, hi, hb => by
    simp only [zcI] at hb ⊢
    simp only [zx] at hi
    obtain ⟨b, bs, e, h1, h2⟩ := hb
    refine ⟨b, bs, e, h1.imp id fun hl => ?_, zhA hi.2 h2⟩
    have hi1 := hi.1
    cases a with
    | rs i off len => obtain ⟨es, h1, q⟩ := hl; simp only [AV.ids] at hi1; exact ⟨es, hi1 ▸ h1, q⟩
    | rp i k off => obtain ⟨es, e, h1, q⟩ := hl; simp only [AV.ids] at hi1; exact ⟨es, e, hi1 ▸ h1, q⟩
    | _ => exact hl
theorem zhB {m m' : zL} : ∀ {as bs : List AV}, zx (fun i => m' i = m i) as → zce m' as bs → zce m as bs
  | [], _, _, hb => hb
  | a :: as, _, hi, hb => by
    simp only [zce] at hb ⊢
    simp only [zx] at hi
    obtain ⟨b, bs, e, h1, h2⟩ := hb
    refine ⟨b, bs, e, h1.imp id fun hl => ?_, zhB hi.2 h2⟩
    have hi1 := hi.1
    cases a with
    | rs i off len => obtain ⟨es, h1, q⟩ := hl; simp only [AV.ids] at hi1; exact ⟨es, hi1 ▸ h1, q⟩
    | rp i k off => obtain ⟨es, e, h1, q⟩ := hl; simp only [AV.ids] at hi1; exact ⟨es, e, hi1 ▸ h1, q⟩
    | agg cs => obtain ⟨bs, h1, q⟩ := hl; simp only [AV.ids] at hi1; exact ⟨bs, zhA hi1 h1, q⟩
    | _ => exact hl
def RCalls (P : Program) (m : zL) (f : FuncId) (args : List AV) (r : AV) : Prop := PCalls P f args r ∨ ∃ args', zce m args args' ∧ PCalls P f args' r ∧ r.plain = true
theorem RCalls.use {f : FuncId} {args : List AV} {r : AV} {σ : St} (h : RCalls P σ.m f args r) {K : AV → St → Prop} (k : K r σ) : ACalls P f args σ K := by
  rcases h with h | ⟨args', hlent, h, hp⟩
  · exact h.use k
  · let σe : St := ⟨fun _ => none, σ.nx, fun i h => absurd rfl h⟩
    refine ⟨(h.2 σe).1, fun S vs hS hl => ?_⟩
    have hSe : SRel σe S.lent := ⟨hS.kn, fun i o hi => by simp [σe] at hi, fun i j hi => by simp [σe] at hi, fun b hb => ⟨⟨(hS.gl b hb).1.1, fun h => h⟩, (hS.gl b hb).2⟩⟩
    refine ((h.2 σe).2 S.lent vs hSe (ziL hS.m hlent hl)).mono ?_
    rintro e w' ⟨S', σ', x, v, rfl, rfl, k1, k2, k3, rfl, k4⟩
    let S2 : Ctx := { S' with O := fun b => S'.O b ∨ (b < S.w.heap.size ∧ S.O b), K := S.K }
    have hev : Ev S S2 := ⟨k1.size, fun b hb _ => k1.heap b hb fun h => h, fun b hb hO => hO.elim (fun h => (k1.O b hb h).elim) (fun h => h.2), fun i hi => ⟨(k1.mu i hi).1, hi⟩, k1.cells, k1.lim, k1.io⟩
    refine ⟨S2, σ, x, v, rfl, rfl, hev, ⟨hS.kn, fun i o hi => ?_, fun i j hi hj e => ?_, hS.gl.ev hev⟩, VRel.plain _ _ k3 hp, k⟩
    · obtain ⟨g1, g2, g3, g4⟩ := hS.live i o hi
      have hmu : S2.mu i = S.mu i := (k1.mu i g1).1
      refine ⟨g1, by rw [hmu]; exact Nat.lt_of_lt_of_le g2 k1.size, by rw [hmu]; exact .inr ⟨g2, g3⟩, OBRel.mono hev g1 (k1.heap _ g2 fun h => h) g4⟩
    · refine hS.inj i j hi hj ?_
      obtain ⟨oi, hoi⟩ := Option.ne_none_iff_exists'.1 hi
      obtain ⟨oj, hoj⟩ := Option.ne_none_iff_exists'.1 hj
      exact ((k1.mu i (hS.live i oi hoi).1).1).symm.trans (e.trans (k1.mu j (hS.live j oj hoj).1).1)
def MCalls (P : Program) (f : FuncId) (args : List AV) (sz : Nat) (ob : Ob) (g : Id → AV) : Prop :=
  ∀ σ slot, ACalls P f args σ fun x σ' => x = g ⟨slot, σ.nx slot, sz⟩ ∧ σ' = σ.new slot sz ob
theorem MCalls.use {f : FuncId} {args : List AV} {sz : Nat} {ob : Ob} {g : Id → AV} (h : MCalls P f args sz ob g) {σ : St} (slot : Nat) {K : AV → St → Prop} (k : K (g ⟨slot, σ.nx slot, sz⟩) (σ.new slot sz ob)) : ACalls P f args σ K :=
  (h σ slot).mono fun x σ' ⟨e, e2⟩ => by subst e; subst e2; exact k
end
end Go.Proofs.YtckabcbfbpejkaaGreatDoor.Av
