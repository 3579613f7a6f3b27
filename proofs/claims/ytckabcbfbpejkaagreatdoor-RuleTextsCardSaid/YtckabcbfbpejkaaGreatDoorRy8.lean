/- Rules: the laws RuleTexts, RuleMatches. Part 8 of 22: AvDraw, AvDraw2, AvStep, AvLoop, AvCut, AvOwn, AvGath, AvGath2, AvDraw3, AvGive, AvMak. -/
import Derived.Test.YtckabcbfbpejkaaGreatDoorRy7
import Derived.OrdersIn
namespace Go.Proofs.YtckabcbfbpejkaaGreatDoor.Av
open Go
set_option linter.unusedSimpArgs false
set_option linter.unusedVariables false
theorem zmq {P : Program} {m : zL} {ρ ρ' : Operand → AV} {op : Op} (h : ∀ x ∈ op.operands, ρ x = ρ' x) : aop P m ρ op = aop P m ρ' op := by
  have hp : ∀ (ps : Array (Nat × Operand)), (∀ x ∈ (ps.toList.map (·.2)).toArray, ρ x = ρ' x) → ps.toList.map (fun p => (p.1, ρ p.2)) = ps.toList.map (fun p => (p.1, ρ' p.2)) := fun ps h =>
    List.map_congr_left fun p hp => by rw [h p.2 (by simp; exact ⟨p.1, by simpa using hp⟩)]
  cases op with
  | build t ps => simp only [aop]; rw [hp ps (by simpa only [Op.operands] using h)]
  | buildSlice t n ps => simp only [aop]; rw [hp ps (by simpa only [Op.operands] using h)]
  | makeFunc f first caps =>
    simp only [Op.operands] at h
    simp only [aop]
    rw [List.map_congr_left (f := ρ) (g := ρ') fun x hx => h x (by simp; exact .inl (by simpa using hx)), List.map_congr_left (f := ρ) (g := ρ') fun x hx => h x (by simp; exact .inr (by simpa using hx))]
  | slice t x lo hi mx =>
    simp only [Op.operands] at h
    have h1 : lo.map ρ = lo.map ρ' := by cases lo with | none => rfl | some l => simp [h l (by simp)]
    have h2 : hi.map ρ = hi.map ρ' := by cases hi with | none => rfl | some l => simp [h l (by simp)]
    cases mx with
    | some m =>
      simp only [aop]
      rw [h x (by simp), h m (by simp), h1, h2]
    | none =>
      simp only [aop]
      rw [h x (by simp), h1, h2]
  | call c =>
    obtain ⟨callee, args, ts⟩ := c
    cases callee with
    | builtin b =>
      have ha : ∀ x ∈ args.toList, ρ x = ρ' x := fun x hx => h x (by simp [Op.operands, Call.operands]; simpa using hx)
      generalize hl : args.toList = l at ha
      cases b
      all_goals
        simp only [aop, hl]
        first
          | done
          | (match l, ha with
             | [], _ => rfl
             | [x], ha => have e1 := ha x (by simp); simp only [e1]
             | [x, y], ha => have e1 := ha x (by simp); have e2 := ha y (by simp); simp only [e1, e2]
             | [x, y, z], ha => have e1 := ha x (by simp); have e2 := ha y (by simp); have e3 := ha z (by simp); simp only [e1, e2, e3]
             | x :: y :: z :: w :: l, _ => rfl)
    | _ => rfl
  | pick c a b => simp only [Op.operands] at h; simp only [aop]; rw [h c (by simp), h a (by simp), h b (by simp)]
  | move x | assign x | box t x | load t x | nilCheck x | unOp o t x | convert s d x | fieldAddr t x f | field t x f | extract x f =>
    simp only [Op.operands] at h; simp only [aop]; rw [h x (by simp)]
  | mapUpdate t x k v => simp only [Op.operands] at h; simp only [aop]; rw [h x (by simp), h k (by simp), h v (by simp)]
  | makeMap t r => cases r <;> rfl
  | store t a v | binOp o t a v r | indexAddr t a v | index t a v | lookup t a v ok => simp only [Op.operands] at h; simp only [aop]; rw [h a (by simp), h v (by simp)]
  | _ => rfl
structure DOp where
  g : Option (Option Nat × Bool)
  rc : Bool
  o : Oper
def DOp.reads (d : DOp) : List Nat :=
  (d.o.op.operands.toList.filterMap fun | .tmp t => some t | _ => none) ++ (match d.g with | some (some t, _) => [t] | _ => [])
def zgg (P : Program) (dst : Option Nat) (f : AV) (args : List AV) (σ : St) (k : AV → St → Prop) : Prop :=
  match f with
  | .fn (.func n) first caps => (∃ r, RCalls P σ.m n (first ++ args ++ caps) r ∧ k r σ) ∨
      ∃ sz ob g slot, MCalls P n (first ++ args ++ caps) sz ob g ∧ dst = some slot ∧ k (g ⟨slot, σ.nx slot, sz⟩) (σ.new slot sz ob)
  | _ => False
def zgZ (rc : Bool) (m : zL) : zL := match rc with | true => fun _ => none | false => m
def zfQ (rc : Bool) (op : Op) (m : zL) : zL := match op with | .load _ _ => zgZ rc m | _ => m
def zbk (P : Program) (rc : Bool) (o : Oper) (A : zn) (σ : St) (k : AV → St → Prop) : Prop :=
  match o.op with
  | .call { callee := .value f, args, .. } => match rc with
    | true => zgg P o.dst (zd A f) (args.toList.map (zd A)) σ k
    | false => ze4 P (zd A f) (args.toList.map (zd A)) σ k
  | op => OK (aop P (zfQ rc op σ.m) (zd A) op) (Res.go (o.dst.getD 0) σ k)
def zak (P : Program) (d : DOp) (A : zn) (σ : St) (k : AV → St → Prop) : Prop := zbp d.g A (zbk P d.rc d.o A σ k) (k zS σ)
def dops (P : Program) (N : Nat) : List DOp → zn → St → (zn → St → Prop) → Prop
  | [], A, σ, K => K A σ
  | d :: rest, A, σ, K => zak P d A σ fun v σ' => dops P N rest (zK N A d.o.dst v) σ' K
section
variable {P : Program} {N : Nat}
theorem zkN {A A' : zn} {ops : Array Operand} (h : ∀ t ∈ (ops.toList.filterMap fun | .tmp t => some t | _ => none), A t = A' t) : ∀ x ∈ ops, zd A x = zd A' x := fun x hx => by
  cases x with
  | tmp t => exact h t (List.mem_filterMap.2 ⟨.tmp t, by simpa using hx, rfl⟩)
  | _ => rfl
theorem zjP {g : Option (Option Nat × Bool)} {A A' : zn} (h : ∀ t b, g = some (some t, b) → A t = A' t) (y n : Prop) : zbp g A y n = zbp g A' y n := by
  unfold zbp
  split
  · rfl
  · rfl
  · rename_i t b; rw [h t b rfl]
theorem zlE {d : DOp} {A A' : zn} (h : ∀ t ∈ d.reads, A t = A' t) (σ : St) (k : AV → St → Prop) : zak P d A σ k = zak P d A' σ k := by
  unfold zak
  rw [zjP (A := A) (A' := A') fun t b e => h t (by simp [DOp.reads, e])]
  have ho : ∀ x ∈ d.o.op.operands, zd A x = zd A' x := zkN fun t ht => h t (List.mem_append_left _ ht)
  congr 1
  unfold zbk
  split
  · rename_i f args ts e
    rw [e] at ho
    have hf : zd A f = zd A' f := ho f (by simp [Op.operands, Call.operands])
    have ha : args.toList.map (zd A) = args.toList.map (zd A') := List.map_congr_left fun x hx => ho x (by simp [Op.operands, Call.operands]; exact .inr (by simpa using hx))
    rw [hf, ha]
  · rw [zmq ho]
theorem zgA {g : Option (Option Nat × Bool)} {A : zn} {y y' n n' : Prop} (h : zbp g A y n) (hy : y → y') (hn : n → n') : zbp g A y' n' := by
  unfold zbp at *
  split
  · exact hy h
  · exact hn h
  · rename_i t b
    simp only [] at h
    split
    · rename_i c e; rw [e] at h; exact ⟨fun x => hy (h.1 x), fun x => hn (h.2 x)⟩
    · rename_i l e; rw [e] at h; exact hn h
    · rename_i e1 e2
      revert h
      split
      · rename_i c e; exact (e1 c e).elim
      · rename_i c e; exact (e2 c e).elim
      · exact id
theorem Res.go_mono {slot : Nat} {σ : St} {k k' : AV → St → Prop} (hk : ∀ v σ, k v σ → k' v σ) : ∀ {r : Res}, Res.go slot σ k r → Res.go slot σ k' r
  | .val _, h | .mk _ _ _, h | .wr _ _, h | .mv _ _ _, h | .mkm _, h | .wrm _ _, h | .wrv _ _ _, h | .mko _ _ _, h | .wro _ _ _, h => hk _ _ h
theorem znZ {x : Option Res} {k k' : Res → Prop} (hk : ∀ r, k r → k' r) (h : OK x k) : OK x k' := by
  cases x with
  | none => exact h
  | some r => exact hk r h
theorem ziM {rc : Bool} {o : Oper} {A : zn} {σ : St} {k k' : AV → St → Prop} (hk : ∀ v σ, k v σ → k' v σ) (h : zbk P rc o A σ k) : zbk P rc o A σ k' := by
  unfold zbk at *
  split
  · rename_i f args ts e
    simp only [e] at h
    cases rc with
    | true =>
      simp only [zgg] at h ⊢
      split at h
      · rcases h with ⟨r, h1, h2⟩ | ⟨sz, ob, g, slot, h1, h2, h3⟩
        · exact .inl ⟨r, h1, hk _ _ h2⟩
        · exact .inr ⟨sz, ob, g, slot, h1, h2, hk _ _ h3⟩
      · exact h.elim
    | false =>
      simp only [ze4] at h ⊢
      split at h
      · exact h.mono hk
      · exact YK.mono hk h
      · exact h.elim
  · rename_i hn
    split at h
    · rename_i f args ts e; exact (hn _ _ _ e).elim
    · exact znZ (fun r => Res.go_mono hk) h
theorem zX {d : DOp} {A : zn} {σ : St} {k k' : AV → St → Prop} (hk : ∀ v σ, k v σ → k' v σ) (h : zak P d A σ k) : zak P d A σ k' :=
  zgA h (ziM hk) (hk _ _)
inductive Cls where
  | total | quiet | read | make | eff | ld | effm
deriving DecidableEq
def zao (rc : Bool) (o : Oper) : Cls :=
  match o.op with
  | .move _ | .assign _ | .makeFunc .. => .total
  | .pick .. | .nilCheck _ | .binOp .. | .unOp .. | .convert .. | .slice .. | .fieldAddr .. | .field .. | .indexAddr .. | .index .. | .extract .. | .build .. => .quiet
  | .load .. => if rc then .quiet else .ld
  | .lookup .. => .read
  | .mapUpdate .. => .effm
  | .alloc .. | .box .. | .buildSlice .. => if o.dst.isSome then .make else .eff
  | .call { callee := .builtin b, .. } => match b with
    | .max | .min => .quiet
    | .len => .read
    | _ => .eff
  | .call { callee := .value _, .. } => if rc then .read else .eff
  | _ => .eff
def DOp.cls (d : DOp) : Cls := match zao d.rc d.o with | .total => if d.g.isNone then .total else .quiet | c => c
def zbq (d : DOp) (A : zn) (σ : St) : Prop := ∀ t ∈ d.reads, (A t).ids fun i => i.nonce < σ.nx i.slot
structure GenForm (P : Program) (d : DOp) (A : zn) (rd : zL → AV → Prop) (mk : Nat → Nat → Ob → (Id → AV) → Prop) : Prop where
  iff : ∀ σ k, zak P d A σ k ↔ (∃ v, rd σ.m v ∧ k v σ) ∨ ∃ slot sz ob f, mk slot sz ob f ∧ k (f ⟨slot, σ.nx slot, sz⟩) (σ.new slot sz ob)
  up : ∀ σ slot sz o v, rd σ.m v → rd (St.new σ slot sz o).m v
  down : ∀ σ slot sz o v, zbq d A σ → rd (St.new σ slot sz o).m v → rd σ.m v
  dst : ∀ slot sz ob f, mk slot sz ob f → d.o.dst = some slot
structure ReadForm (P : Program) (d : DOp) (A : zn) (rd : zL → AV → Prop) : Prop where
  iff : ∀ σ k, zak P d A σ k ↔ ∃ v, rd σ.m v ∧ k v σ
  up : ∀ σ slot sz o v, rd σ.m v → rd (St.new σ slot sz o).m v
  down : ∀ σ slot sz o v, zbq d A σ → rd (St.new σ slot sz o).m v → rd σ.m v
structure MakeForm (P : Program) (d : DOp) (A : zn) (slot sz : Nat) (es : List AV) (f : Id → AV) : Prop where
  dst : d.o.dst = some slot
  iff : ∀ σ k, zak P d A σ k ↔ k (f ⟨slot, σ.nx slot, sz⟩) (σ.new slot sz (.buf es))
theorem ReadForm.gen {P : Program} {d : DOp} {A : zn} {rd : zL → AV → Prop} (h : ReadForm P d A rd) : GenForm P d A rd (fun _ _ _ _ => False) :=
  ⟨fun σ k => by rw [h.iff]; simp, h.up, h.down, fun _ _ _ _ h => h.elim⟩
theorem MakeForm.gen {P : Program} {d : DOp} {A : zn} {slot sz : Nat} {es : List AV} {f : Id → AV} (h : MakeForm P d A slot sz es f) : GenForm P d A (fun _ _ => False) (fun s z o g => s = slot ∧ z = sz ∧ o = .buf es ∧ g = f) :=
  ⟨fun σ k => by
    rw [h.iff]
    constructor
    · exact fun x => .inr ⟨_, _, _, _, ⟨rfl, rfl, rfl, rfl⟩, x⟩
    · rintro (⟨v, hv, _⟩ | ⟨s, z, o, g, ⟨rfl, rfl, rfl, rfl⟩, x⟩)
      · exact hv.elim
      · exact x, fun _ _ _ _ _ h => h, fun _ _ _ _ _ _ h => h, fun _ _ _ _ e => e.1 ▸ h.dst⟩
def zb4 (g : Option (Option Nat × Bool)) (A : zn) : Option Bool :=
  match g with
  | none => some true
  | some (none, _) => some false
  | some (some t, b) => match A t with
    | .raw (.bool c) => some (c == b)
    | .raw (.tuple _) => some false
    | _ => none
theorem zbJ {g : Option (Option Nat × Bool)} {A : zn} {y n : Prop} : zbp g A y n ↔ (zb4 g A = some true ∧ y) ∨ (zb4 g A = some false ∧ n) := by
  unfold zbp zb4
  split
  · simp
  · simp
  · rename_i t b
    split
    · rename_i c e
      by_cases h : c = b
      · simp [e, h]
      · simp [e, h]
    · rename_i e; simp [e]
    · rename_i e1 e2
      have : (match A t with
        | .raw (.bool c) => some (c == b)
        | .raw (.tuple _) => some false
        | _ => (none : Option Bool)) = none := by
        split
        · rename_i c e; exact (e1 _ e).elim
        · rename_i c e; exact (e2 _ e).elim
        · rfl
      simp only [this]
      simp
theorem zcl {d : DOp} {A : zn} {rd : zL → AV → Prop} (h : ∀ σ k, zbk P d.rc d.o A σ k ↔ ∃ v, rd σ.m v ∧ k v σ)
    (up : ∀ σ slot sz o v, rd σ.m v → rd (St.new σ slot sz o).m v) (down : ∀ σ slot sz o v, zbq d A σ → rd (St.new σ slot sz o).m v → rd σ.m v) :
    ReadForm P d A fun m v => (zb4 d.g A = some true ∧ rd m v) ∨ (zb4 d.g A = some false ∧ v = zS) where
  iff := fun σ k => by
    unfold zak
    rw [zbJ, h]
    constructor
    · rintro (⟨h1, v, h2, h3⟩ | ⟨h1, h2⟩)
      · exact ⟨v, .inl ⟨h1, h2⟩, h3⟩
      · exact ⟨_, .inr ⟨h1, rfl⟩, h2⟩
    · rintro ⟨v, ⟨h1, h2⟩ | ⟨h1, rfl⟩, h3⟩
      · exact .inl ⟨h1, v, h2, h3⟩
      · exact .inr ⟨h1, h3⟩
  up := fun σ slot sz o v hh => hh.imp (fun ⟨a, b⟩ => ⟨a, up σ slot sz o v b⟩) id
  down := fun σ slot sz o v l hh => hh.imp (fun ⟨a, b⟩ => ⟨a, down σ slot sz o v l b⟩) id
theorem zlF {d : DOp} {A : zn} {rd : zL → AV → Prop} {mk : Nat → Nat → Ob → (Id → AV) → Prop}
    (h : ∀ σ k, zbk P d.rc d.o A σ k ↔ (∃ v, rd σ.m v ∧ k v σ) ∨ ∃ slot sz ob f, mk slot sz ob f ∧ k (f ⟨slot, σ.nx slot, sz⟩) (σ.new slot sz ob))
    (up : ∀ σ slot sz o v, rd σ.m v → rd (St.new σ slot sz o).m v) (down : ∀ σ slot sz o v, zbq d A σ → rd (St.new σ slot sz o).m v → rd σ.m v) (dst : ∀ slot sz ob f, mk slot sz ob f → d.o.dst = some slot) :
    GenForm P d A (fun m v => (zb4 d.g A = some true ∧ rd m v) ∨ (zb4 d.g A = some false ∧ v = zS)) (fun s z o f => zb4 d.g A = some true ∧ mk s z o f) where
  iff := fun σ k => by
    unfold zak
    rw [zbJ, h]
    constructor
    · rintro (⟨h1, ⟨v, h2, h3⟩ | ⟨s, z, o, f, h2, h3⟩⟩ | ⟨h1, h2⟩)
      · exact .inl ⟨v, .inl ⟨h1, h2⟩, h3⟩
      · exact .inr ⟨s, z, o, f, ⟨h1, h2⟩, h3⟩
      · exact .inl ⟨_, .inr ⟨h1, rfl⟩, h2⟩
    · rintro (⟨v, ⟨h1, h2⟩ | ⟨h1, rfl⟩, h3⟩ | ⟨s, z, o, f, ⟨h1, h2⟩, h3⟩)
      · exact .inl ⟨h1, .inl ⟨v, h2, h3⟩⟩
      · exact .inr ⟨h1, h3⟩
      · exact .inl ⟨h1, .inr ⟨s, z, o, f, h2, h3⟩⟩
  up := fun σ slot sz o v hh => hh.imp (fun ⟨a, b⟩ => ⟨a, up σ slot sz o v b⟩) id
  down := fun σ slot sz o v hl hh => hh.imp (fun ⟨a, b⟩ => ⟨a, down σ slot sz o v hl b⟩) id
  dst := fun s z o f hh => dst s z o f hh.2
theorem zmr {o : Oper} {rc : Bool} (h : zao rc o = .quiet ∨ zao rc o = .total) (hnl : ∀ t x, o.op ≠ .load t x) (m m' : zL) (ρ : Operand → AV) : aop P m ρ o.op = aop P m' ρ o.op ∧ ∀ r, aop P m ρ o.op = some r → ∃ v, r = .val v := by
  unfold zao at h
  cases ho : o.op with
  | call c =>
    obtain ⟨callee, args, ts⟩ := c
    rw [ho] at h
    cases callee with
    | builtin b =>
      cases b <;> simp only [reduceCtorEq, or_self] at h
      all_goals
        generalize hl : args.toList = l
        simp only [aop, hl]
        match l with
        | [] => exact ⟨rfl, fun r e => by simp at e⟩
        | [x] => exact ⟨rfl, fun r e => by simp at e⟩
        | [x, y] => exact ⟨rfl, fun r e => by simp only [Option.map_eq_some_iff] at e; obtain ⟨v, _, rfl⟩ := e; exact ⟨v, rfl⟩⟩
        | [x, y, z] => exact ⟨rfl, fun r e => by first | (simp at e; done) | (simp only [Option.map_eq_some_iff] at e; obtain ⟨v, _, rfl⟩ := e; exact ⟨v, rfl⟩)⟩
        | x :: y :: z :: w :: l => exact ⟨rfl, fun r e => by simp at e⟩
    | value f => cases rc <;> simp at h
    | _ => simp at h
  | move x | assign x | makeFunc x y z => exact ⟨rfl, fun r e => by simp only [aop, Option.some.injEq] at e; exact ⟨_, e.symm⟩⟩
  | pick c a b => exact ⟨rfl, fun r e => by simp only [aop] at e; split at e <;> simp only [Option.some.injEq, reduceCtorEq] at e; exact ⟨_, e.symm⟩⟩
  | nilCheck x => exact ⟨rfl, fun r e => by simp only [aop] at e; split at e <;> simp only [Option.some.injEq, reduceCtorEq] at e <;> exact ⟨_, e.symm⟩⟩
  | slice t x lo hi mx =>
    cases mx with
    | none => exact ⟨rfl, fun r e => by simp only [aop, Option.map_eq_some_iff] at e; obtain ⟨x, _, rfl⟩ := e; exact ⟨_, rfl⟩⟩
    | some x => exact ⟨rfl, fun r e => by simp only [aop, Option.map_eq_some_iff] at e; obtain ⟨x, _, rfl⟩ := e; exact ⟨_, rfl⟩⟩
  | extract t ix =>
    refine ⟨rfl, fun r e => ?_⟩
    simp only [aop] at e
    split at e
    · simp only [Option.map_eq_some_iff] at e; obtain ⟨x, _, rfl⟩ := e; exact ⟨_, rfl⟩
    · simp at e
  | binOp _ _ _ _ _ | unOp _ _ _ | convert _ _ _ | fieldAddr _ _ _ | field _ _ _ | indexAddr _ _ _ | index _ _ _ | build _ _ => exact ⟨rfl, fun r e => by simp only [aop, Option.map_eq_some_iff] at e; obtain ⟨x, _, rfl⟩ := e; exact ⟨_, rfl⟩⟩
  | load t x => exact absurd ho (hnl t x)
  | alloc _ | box _ _ | buildSlice _ _ _ => rw [ho] at h; simp at h; split at h <;> simp at h
  | _ => rw [ho] at h; simp at h
theorem zhC {rc : Bool} {op : Op} {m : zL} (h : ∀ t x, op ≠ .load t x) : zfQ rc op m = m := by
  unfold zfQ
  split
  · exact absurd rfl (h _ _)
  · rfl
theorem zhD {o : Oper} {rc : Bool} (h : zao rc o = .quiet ∨ zao rc o = .total ∨ zao rc o = .make) (hnl : ∀ t x, o.op ≠ .load t x) (A : zn) (σ : St) (k : AV → St → Prop) : zbk P rc o A σ k = OK (aop P σ.m (zd A) o.op) (Res.go (o.dst.getD 0) σ k) := by
  unfold zbk
  split
  · rename_i f args ts e
    unfold zao at h
    rw [e] at h
    cases rc <;> simp at h
  · rw [zhC hnl]
theorem zhE {d : DOp} (h : zao d.rc d.o = .quiet ∨ zao d.rc d.o = .total) (A : zn) (σ : St) (k : AV → St → Prop) :
    zbk P d.rc d.o A σ k ↔ ∃ v, aop P (fun _ => none) (zd A) d.o.op = some (.val v) ∧ k v σ := by
  by_cases hl : ∃ t x, d.o.op = .load t x
  · obtain ⟨t, x, ho⟩ := hl
    unfold zao at h
    rw [ho] at h
    have hrc : d.rc = true := by
      cases hr : d.rc with
      | true => rfl
      | false => rw [hr] at h; simp at h
    unfold zbk
    rw [ho, hrc]
    simp only [zfQ, zgZ, aop]
    cases zaF P (fun _ => none) t (zd A x) <;> simp [OK, Res.go]
  · have hnl : ∀ t x, d.o.op ≠ .load t x := fun t x e => hl ⟨t, x, e⟩
    rw [zhD (h.imp id .inl) hnl]
    obtain ⟨e, hv⟩ := zmr (P := P) h hnl σ.m (fun _ => none) (zd A)
    rw [← e]
    cases hr : aop P σ.m (zd A) d.o.op with
    | none => simp [OK]
    | some r =>
      obtain ⟨v, rfl⟩ := hv r hr
      simp [OK, Res.go]
theorem ze8 {d : DOp} (h : zao d.rc d.o = .quiet ∨ zao d.rc d.o = .total) (A : zn) : ∃ rd : AV → Prop, ReadForm P d A fun _ v => rd v :=
  ⟨_, zcl (rd := fun _ v => aop P (fun _ => none) (zd A) d.o.op = some (.val v)) (zhE h A) (fun _ _ _ _ _ h => h) (fun _ _ _ _ _ _ h => h)⟩
theorem ze9 {d : DOp} (h : d.cls = .total) (A : zn) : ∃ v, ∀ σ k, zak P d A σ k ↔ k v σ := by
  unfold DOp.cls at h
  have hc : zao d.rc d.o = .total := by
    revert h; split
    · rename_i e; exact fun _ => e
    · exact id
  rw [hc] at h
  have hg : d.g = none := by
    simp only [] at h
    split at h
    · rename_i e; simpa using e
    · cases h
  have key : ∃ v, aop P (fun _ => none) (zd A) d.o.op = some (.val v) := by
    unfold zao at hc
    cases ho : d.o.op with
    | move x => exact ⟨_, rfl⟩
    | assign x => exact ⟨_, rfl⟩
    | makeFunc a b c => exact ⟨_, rfl⟩
    | call c =>
      obtain ⟨callee, args, ts⟩ := c
      rw [ho] at hc
      cases callee with
      | builtin b => cases b <;> simp at hc
      | value f => simp only [] at hc; split at hc <;> cases hc
      | _ => simp at hc
    | alloc _ | box _ _ | buildSlice _ _ _ => rw [ho] at hc; simp only [] at hc; split at hc <;> cases hc
    | load _ _ => rw [ho] at hc; simp only [] at hc; split at hc <;> cases hc
    | _ => rw [ho] at hc; simp at hc
  obtain ⟨v, hv⟩ := key
  refine ⟨v, fun σ k => ?_⟩
  unfold zak
  rw [hg]
  show zbk P d.rc d.o A σ k ↔ _
  rw [zhE (.inr hc), hv]
  simp
theorem ziN {σ : St} {slot sz : Nat} {o : Ob} {i : Id} (h : i.nonce < σ.nx i.slot) : (σ.new slot sz o).m i = σ.m i := by
  simp only [St.new]
  split
  · rename_i e; subst e; simp at h
  · rfl
theorem za6 {σ : St} {slot sz : Nat} {o : Ob} (i : Id) (x : Ob) (h : σ.m i = some x) : (σ.new slot sz o).m i = some x := by
  rw [ziN (σ.wf i (by rw [h]; simp)), h]
theorem zdB {d : DOp} {A : zn} {σ : St} (h : zbq d A σ) (slot sz : Nat) (o : Ob) : ∀ x ∈ d.o.op.operands, (zd A x).ids fun i => (σ.new slot sz o).m i = σ.m i := fun x hx => by
  cases x with
  | tmp t => exact AV.ids_mono (fun i hi => ziN hi) _ (h t (List.mem_append_left _ (List.mem_filterMap.2 ⟨.tmp t, by simpa using hx, rfl⟩)))
  | const v =>
    have hc : ∀ v, (z8 v).ids fun i => (σ.new slot sz o).m i = σ.m i := fun v => by
      unfold z8; split <;> simp [AV.ids, zx]
    show (zC v).ids _
    unfold zC
    split
    · rename_i cs
      simp only [AV.ids]
      generalize cs.toList = l
      induction l with
      | nil => simp [zx]
      | cons a l ih => simp only [List.map_cons, zx]; exact ⟨hc a, ih⟩
    · exact hc v
  | global g => simp [zd, AV.ids]
  | func f => simp [zd, AV.ids, zx]
theorem ziO {m m' : zL} (h : ∀ i o, m i = some o → m' i = some o) {t : TypeId} {x v : AV} (hx : zaF P m t x = some v) : zaF P m' t x = some v := by
  cases x <;> simp only [zaF, reduceCtorEq] at hx ⊢
  · exact hx
  · rename_i i k off
    simp only [zde] at hx ⊢
    cases hm : m i with
    | none => rw [hm] at hx; simp at hx
    | some o => rw [h i o hm]; rw [hm] at hx; exact hx
theorem zkO {m m' : zL} {t : TypeId} {x : AV} (h : x.ids fun i => m' i = m i) : zaF P m' t x = zaF P m t x := by
  cases x <;> try rfl
  simp only [AV.ids] at h
  simp only [zaF, zde, h]
theorem znf {m m' : zL} (h : ∀ i o, m i = some o → m' i = some o) {t : TypeId} {x v : AV} (hx : zca P m t x = some v) : zca P m' t x = some v := by
  unfold zca at *
  split at hx <;> try (exact hx)
  rename_i i
  split at hx
  · rename_i hu
    rw [if_pos hu]
    split at hx
    · rename_i ents hm
      rw [h i _ hm]
      exact hx
    · simp at hx
  · simp at hx
theorem zlG {m m' : zL} {t : TypeId} {x : AV} (h : x.ids fun i => m' i = m i) : zca P m' t x = zca P m t x := by
  unfold zca
  split <;> try rfl
  rename_i i
  simp only [AV.ids] at h
  rw [h]
def zeF (P : Program) (f : AV) (args : List AV) (m : zL) (r : AV) : Prop := match f with | .fn (.func n) first caps => RCalls P m n (first ++ args ++ caps) r | _ => False
def zjQ (P : Program) (dst : Option Nat) (f : AV) (args : List AV) (slot sz : Nat) (ob : Ob) (g : Id → AV) : Prop :=
  dst = some slot ∧ match f with | .fn (.func n) first caps => MCalls P n (first ++ args ++ caps) sz ob g | _ => False
theorem zms {dst : Option Nat} {f : AV} {args : List AV} {σ : St} {k : AV → St → Prop} : zgg P dst f args σ k ↔ (∃ r, zeF P f args σ.m r ∧ k r σ) ∨ ∃ slot sz ob g, zjQ P dst f args slot sz ob g ∧ k (g ⟨slot, σ.nx slot, sz⟩) (σ.new slot sz ob) := by
  unfold zgg zeF zjQ
  split
  · constructor
    · rintro (h | ⟨sz, ob, g, slot, h1, h2, h3⟩)
      · exact .inl h
      · exact .inr ⟨slot, sz, ob, g, ⟨h2, h1⟩, h3⟩
    · rintro (h | ⟨slot, sz, ob, g, ⟨h1, h2⟩, h3⟩)
      · exact .inl h
      · exact .inr ⟨sz, ob, g, slot, h2, h1, h3⟩
  · simp
theorem zkP {m m' : zL} (h : ∀ i o, m i = some o → m' i = some o) {t : TypeId} {x k v : AV} {ok : Bool} (hx : za2 P m t x k ok = some v) : za2 P m' t x k ok = some v := by
  unfold za2 at *
  split at hx
  · rename_i kt et i hmt
    split at hx
    · rename_i ents hm
      simp only [hmt, h i _ hm]
      exact hx
    · simp at hx
  · simp at hx
theorem zjb {m m' : zL} {t : TypeId} {x k : AV} {ok : Bool} (h : x.ids fun i => m' i = m i) : za2 P m' t x k ok = za2 P m t x k ok := by
  unfold za2
  cases x <;> cases zdV P t <;> try rfl
  rename_i i p
  obtain ⟨kt, et⟩ := p
  simp only [AV.ids] at h
  simp only [h]
theorem zlH {σ : St} {i : Id} {old ents : List (Value × AV)} (h : σ.m i = some (.map old)) (t : TypeId) (x : AV) : zaF P (σ.set i (.map ents)).m t x = zaF P σ.m t x := by
  cases x <;> try rfl
  rename_i j k off
  simp only [zaF, zde]
  by_cases e : j = i
  · subst e; simp [St.set, h]
  · simp [St.set, e]
theorem zif {d : DOp} (h : zao d.rc d.o = .ld) (A : zn) : ∃ rd, ReadForm P d A rd ∧ ∀ (σ : St) i old ents v, σ.m i = some (.map old) → (rd (σ.set i (.map ents)).m v ↔ rd σ.m v) := by
  cases ho : d.o.op with
  | load t x =>
    have hrc : d.rc = false := by
      cases hr : d.rc with
      | false => rfl
      | true => unfold zao at h; rw [ho, hr] at h; simp at h
    refine ⟨_, zcl (rd := fun m v => zaF P m t (zd A x) = some v) (fun σ k => ?_) (fun σ slot sz o v hv => ziO za6 hv) (fun σ slot sz o v hl hv => ?_), fun σ i old ents v hi => ?_⟩
    · unfold zbk
      rw [ho, hrc]
      simp only [zfQ, zgZ, aop]
      cases zaF P σ.m t (zd A x) <;> simp [OK, Res.go]
    · rw [← hv, ← zkO (zdB hl slot sz o x (by rw [ho]; simp [Op.operands]))]
    · rw [zlH hi]
  | call c =>
    obtain ⟨callee, args, ts⟩ := c
    unfold zao at h
    rw [ho] at h
    cases callee with
    | builtin b => cases b <;> simp at h
    | value f => simp only [] at h; split at h <;> cases h
    | _ => simp at h
  | alloc _ | box _ _ | buildSlice _ _ _ => unfold zao at h; rw [ho] at h; simp only [] at h; split at h <;> cases h
  | _ => unfold zao at h; rw [ho] at h; simp at h
theorem zg0 {m : zL} {t : TypeId} {x k v : AV} {r : Res} (h : zaT P m t x k v = some r) : ∃ i old ents, r = .wrm i ents ∧ m i = some (.map old) := by
  unfold zaT at h
  split at h
  · rename_i i _ _ _
    split at h
    · rename_i old hi
      split at h
      · split at h
        · split at h
          · simp only [Option.some.injEq] at h; exact ⟨_, _, _, h.symm, hi⟩
          · cases h
        · simp only [Option.some.injEq] at h; exact ⟨_, _, _, h.symm, hi⟩
        · cases h
      · cases h
    · cases h
  · cases h
theorem zfR {d : DOp} (h : zao d.rc d.o = .effm) (A : zn) : ∃ wr : zL → Id → List (Value × AV) → Prop, ∀ (σ : St) k, zak P d A σ k ↔
    (zb4 d.g A = some true ∧ ∃ i old ents, wr σ.m i ents ∧ σ.m i = some (.map old) ∧ k zS (σ.set i (.map ents))) ∨ (zb4 d.g A = some false ∧ k zS σ) := by
  cases ho : d.o.op with
  | mapUpdate t x k' v =>
    refine ⟨fun m i ents => zaT P m t (zd A x) (zd A k') (zd A v) = some (.wrm i ents), fun σ k => ?_⟩
    unfold zak
    rw [zbJ]
    have : zbk P d.rc d.o A σ k ↔ ∃ i old ents, zaT P σ.m t (zd A x) (zd A k') (zd A v) = some (.wrm i ents) ∧ σ.m i = some (.map old) ∧ k zS (σ.set i (.map ents)) := by
      unfold zbk
      rw [ho]
      simp only [aop, zfQ]
      cases hr : zaT P σ.m t (zd A x) (zd A k') (zd A v) with
      | none => simp [OK]
      | some r =>
        obtain ⟨i, old, ents, rfl, hi⟩ := zg0 hr
        simp only [OK, Res.go]
        constructor
        · exact fun hk => ⟨i, old, ents, rfl, hi, hk⟩
        · rintro ⟨i', old', ents', e, hi', hk⟩
          simp only [Option.some.injEq, Res.wrm.injEq] at e
          obtain ⟨rfl, rfl⟩ := e
          exact hk
    rw [this]
  | call c =>
    obtain ⟨callee, args, ts⟩ := c
    unfold zao at h
    rw [ho] at h
    cases callee with
    | builtin b => cases b <;> simp at h
    | value f => simp only [] at h; split at h <;> cases h
    | _ => simp at h
  | alloc _ | box _ _ | buildSlice _ _ _ | load _ _ => unfold zao at h; rw [ho] at h; simp only [] at h; split at h <;> cases h
  | _ => unfold zao at h; rw [ho] at h; simp at h
theorem zmt {d : DOp} (h : zao d.rc d.o = .read) (A : zn) : ∃ rd mk, GenForm P d A rd mk := by
  cases ho : d.o.op with
  | lookup t x k ok =>
    refine ⟨_, _, (zcl (rd := fun m v => za2 P m t (zd A x) (zd A k) ok = some v) (fun σ k' => ?_) (fun σ slot sz o v hv => zkP za6 hv) (fun σ slot sz o v hl hv => ?_)).gen⟩
    · unfold zbk
      rw [ho]
      simp only [aop, zfQ]
      cases za2 P σ.m t (zd A x) (zd A k) ok <;> simp [OK, Res.go]
    · rw [← hv, ← zjb (zdB hl slot sz o x (by rw [ho]; simp [Op.operands]))]
  | load t x => unfold zao at h; rw [ho] at h; simp only [] at h; split at h <;> cases h
  | call c =>
    obtain ⟨callee, args, ts⟩ := c
    unfold zao at h
    rw [ho] at h
    cases callee with
    | builtin b =>
      cases b <;> simp only [reduceCtorEq] at h
      have hr : ∀ σ k, zbk P d.rc d.o A σ k = OK (aop P σ.m (zd A) (.call { callee := .builtin .len, args := args, argTypes := ts })) (Res.go (d.o.dst.getD 0) σ k) := fun σ k => by
        unfold zbk; rw [ho]; rfl
      generalize ht : ts.toList = tl
      generalize ha : args.toList = al
      by_cases hx : ∃ x t, al = [x] ∧ tl = [t]
      · obtain ⟨x, t, rfl, rfl⟩ := hx
        refine ⟨_, _, (zcl (rd := fun m v => zca P m t (zd A x) = some v) (fun σ k => ?_) (fun σ slot sz o v hv => znf za6 hv) (fun σ slot sz o v hl hv => ?_)).gen⟩
        · rw [hr]
          simp only [aop, ha, ht]
          cases zca P σ.m t (zd A x) <;> simp [OK, Res.go]
        · rw [← hv, ← zlG (zdB hl slot sz o x (by rw [ho]; simp [Op.operands, Call.operands]; rw [← Array.mem_toList_iff, ha]; simp))]
      · refine ⟨_, _, (zcl (rd := fun _ _ => False) (fun σ k => ?_) (fun _ _ _ _ _ h => h) (fun _ _ _ _ _ _ h => h)).gen⟩
        rw [hr]
        have : aop P σ.m (zd A) (.call { callee := .builtin .len, args := args, argTypes := ts }) = none := by
          simp only [aop, ha, ht]
          match al, tl, hx with
          | [x], [t], hx => exact (hx ⟨x, t, rfl, rfl⟩).elim
          | [x], [], _ => rfl
          | [x], t :: u :: l, _ => rfl
          | [], _, _ => rfl
          | x :: y :: l, _, _ => rfl
        rw [this]
        simp [OK]
    | value f =>
      have hrc : d.rc = true := by
        simp only [] at h
        split at h
        · assumption
        · simp at h
      refine ⟨_, _, zlF (rd := zeF P (zd A f) (args.toList.map (zd A))) (mk := zjQ P d.o.dst (zd A f) (args.toList.map (zd A))) (fun σ k => ?_) (fun σ slot sz o v hv => ?_) (fun σ slot sz o v hl hv => ?_) fun _ _ _ _ h => h.1⟩
      · unfold zbk
        rw [ho, hrc]
        exact zms
      · revert hv
        unfold zeF
        split
        · rintro (hv | ⟨args', h1, h2⟩)
          · exact .inl hv
          · exact .inr ⟨args', zjO za6 h1, h2⟩
        · exact id
      · have hev := zdB hl slot sz o
        rw [ho] at hev
        have hf := hev f (by simp [Op.operands, Call.operands])
        have ha : zx (fun i => (σ.new slot sz o).m i = σ.m i) (args.toList.map (zd A)) := by
          have hx : ∀ x ∈ args.toList, (zd A x).ids fun i => (σ.new slot sz o).m i = σ.m i := fun x hx => hev x (by simp [Op.operands, Call.operands]; exact .inr (by simpa using hx))
          generalize args.toList = l at hx
          induction l with
          | nil => simp [zx]
          | cons a l ih => simp only [List.map_cons, zx]; exact ⟨hx a (by simp), ih fun x h => hx x (by simp [h])⟩
        revert hv
        unfold zeF
        split
        · rename_i n first caps e
          rw [e] at hf
          simp only [AV.ids] at hf
          rintro (hv | ⟨args', h1, h2⟩)
          · exact .inl hv
          · exact .inr ⟨args', zhB (zes.2 ⟨zes.2 ⟨hf.1, ha⟩, hf.2⟩) h1, h2⟩
        · exact id
    | _ => simp at h
  | alloc _ | box _ _ | buildSlice _ _ _ => unfold zao at h; rw [ho] at h; simp only [] at h; split at h <;> cases h
  | _ => unfold zao at h; rw [ho] at h; simp at h
theorem zmu {d : DOp} (h : zao d.rc d.o = .make) (A : zn) : (∃ rd : AV → Prop, ReadForm P d A fun _ v => rd v) ∨ ∃ slot sz es f, MakeForm P d A slot sz es f := by
  have hr : ∀ σ k, zbk P d.rc d.o A σ k = OK (aop P σ.m (zd A) d.o.op) (Res.go (d.o.dst.getD 0) σ k) := zhD (.inr (.inr h)) (fun t x e => by unfold zao at h; rw [e] at h; simp only [] at h; split at h <;> cases h) A
  have hm : ∀ m, aop P m (zd A) d.o.op = aop P (fun _ => none) (zd A) d.o.op ∧ ∀ r, aop P m (zd A) d.o.op = some r → ∃ sz es f, r = .mk sz es f := fun m => by
    unfold zao at h
    cases ho : d.o.op with
    | alloc t => exact ⟨rfl, fun r e => by simp only [aop, zdJ] at e; split at e <;> simp only [Option.some.injEq, reduceCtorEq] at e; exact ⟨_, _, _, e.symm⟩⟩
    | box t x => exact ⟨rfl, fun r e => by simp only [aop, zgc] at e; split at e <;> simp only [Option.some.injEq, reduceCtorEq] at e; exact ⟨_, _, _, e.symm⟩⟩
    | buildSlice t n ps =>
      refine ⟨rfl, fun r e => ?_⟩
      simp only [aop, zbz] at e
      split at e
      · split at e
        · split at e
          · simp only [Option.map_eq_some_iff] at e; obtain ⟨x, _, rfl⟩ := e; exact ⟨_, _, _, rfl⟩
          · simp at e
        · simp at e
      · simp at e
    | call c =>
      obtain ⟨callee, args, ts⟩ := c
      rw [ho] at h
      cases callee with
      | builtin b => cases b <;> simp at h
      | value f => simp only [] at h; split at h <;> cases h
      | _ => simp at h
    | load _ _ => rw [ho] at h; simp only [] at h; split at h <;> cases h
    | _ => rw [ho] at h; simp at h
  have hd : d.o.dst.isSome := by
    unfold zao at h
    cases ho : d.o.op with
    | alloc _ | box _ _ | buildSlice _ _ _ =>
      rw [ho] at h
      simp only [] at h
      split at h
      · assumption
      · cases h
    | call c =>
      obtain ⟨callee, args, ts⟩ := c
      rw [ho] at h
      cases callee with
      | builtin b => cases b <;> simp at h
      | value f => simp only [] at h; split at h <;> cases h
      | _ => simp at h
    | load _ _ => rw [ho] at h; simp only [] at h; split at h <;> cases h
    | _ => rw [ho] at h; simp at h
  obtain ⟨slot, hslot⟩ := Option.isSome_iff_exists.1 hd
  cases hg : zb4 d.g A with
  | none =>
    refine .inl ⟨fun _ => False, ⟨fun σ k => ?_, fun _ _ _ _ _ h => h, fun _ _ _ _ _ _ h => h⟩⟩
    unfold zak; rw [zbJ, hg]; simp
  | some b =>
    cases b with
    | false =>
      refine .inl ⟨fun v => v = zS, ⟨fun σ k => ?_, fun _ _ _ _ _ h => h, fun _ _ _ _ _ _ h => h⟩⟩
      unfold zak; rw [zbJ, hg]; simp
    | true =>
      cases hx : aop P (fun _ => none) (zd A) d.o.op with
      | none =>
        refine .inl ⟨fun _ => False, ⟨fun σ k => ?_, fun _ _ _ _ _ h => h, fun _ _ _ _ _ _ h => h⟩⟩
        unfold zak; rw [zbJ, hg, hr, (hm σ.m).1, hx]; simp [OK]
      | some r =>
        obtain ⟨sz, es, f, rfl⟩ := (hm _).2 r hx
        refine .inr ⟨slot, sz, es, f, hslot, fun σ k => ?_⟩
        unfold zak; rw [zbJ, hg, hr, (hm σ.m).1, hx, hslot]; simp [OK, Res.go]
end
end Go.Proofs.YtckabcbfbpejkaaGreatDoor.Av
namespace Go.Proofs.YtckabcbfbpejkaaGreatDoor.Av
open Go
set_option linter.unusedSimpArgs false
set_option linter.unusedVariables false
section
variable {P : Program} {N : Nat}
def zef (d : Option Nat) (l : List Nat) : Bool := match d with | some t => l.contains t | none => false
def zeG (a b : Option Nat) : Bool := match a, b with | some s, some t => s == t | _, _ => false
def zd4 (a b : DOp) : Bool := !zef a.o.dst b.reads && !zef b.o.dst a.reads && !zeG a.o.dst b.o.dst
def zbR (cj ci : Cls) : Bool :=
  match cj, ci with
  | .eff, .total => true
  | .eff, _ => false
  | .effm, .total => true
  | .effm, .ld => true
  | .effm, _ => false
  | .read, .eff | .make, .eff | .ld, .eff | .read, .effm | .make, .effm => false
  | _, _ => true
theorem zhF {A : zn} {d : Option Nat} {v : AV} {t : Nat} (h : d ≠ some t) : zK N A d v t = A t := by
  cases d with
  | none => rfl
  | some s =>
    simp only [zK, put]
    rw [if_neg]
    rintro ⟨rfl, _⟩; exact h rfl
theorem zmv {A : zn} {d e : Option Nat} (h : zeG d e = false) (v u : AV) : zK N (zK N A d v) e u = zK N (zK N A e u) d v := by
  cases d with
  | none => rfl
  | some s => cases e with
    | none => rfl
    | some t =>
      simp [zeG] at h
      funext x
      simp only [zK, put]
      by_cases h1 : x = t ∧ t < N
      · have h2 : ¬ (x = s ∧ s < N) := fun h2 => h (h2.1.symm.trans h1.1)
        rw [if_pos h1, if_neg h2, if_pos h1]
      · by_cases h2 : x = s ∧ s < N
        · rw [if_neg h1, if_pos h2, if_pos h2]
        · rw [if_neg h1, if_neg h2, if_neg h2, if_neg h1]
theorem zjR {d : DOp} {A : zn} {e : Option Nat} {v : AV} (h : zef e d.reads = false) (σ : St) (k : AV → St → Prop) : zak P d (zK N A e v) σ k = zak P d A σ k :=
  zlE (fun t ht => zhF fun x => by
    subst x
    simp only [zef, List.contains_eq_mem, decide_eq_false_iff_not] at h
    exact h ht) σ k
theorem zng {σ : St} {s t z y : Nat} {o p : Ob} (h : s ≠ t) : (σ.new s z o).new t y p = (σ.new t y p).new s z o := by
  have h1 : (σ.new s z o).nx t = σ.nx t := by simp [St.new, Ne.symm h]
  have h2 : (σ.new t y p).nx s = σ.nx s := by simp [St.new, h]
  have hm : ((σ.new s z o).new t y p).m = ((σ.new t y p).new s z o).m := by
    funext j
    show (if j = ⟨t, (σ.new s z o).nx t, y⟩ then some p else (if j = ⟨s, σ.nx s, z⟩ then some o else σ.m j)) = (if j = ⟨s, (σ.new t y p).nx s, z⟩ then some o else (if j = ⟨t, σ.nx t, y⟩ then some p else σ.m j))
    rw [h1, h2]
    by_cases e1 : j = ⟨t, σ.nx t, y⟩
    · have e2 : ¬ j = ⟨s, σ.nx s, z⟩ := fun e2 => h (by rw [e1] at e2; injection e2 with q; exact q.symm)
      rw [if_pos e1, if_neg e2, if_pos e1]
    · by_cases e2 : j = ⟨s, σ.nx s, z⟩
      · rw [if_neg e1, if_pos e2, if_pos e2]
      · rw [if_neg e1, if_neg e2, if_neg e2, if_neg e1]
  have hn : ((σ.new s z o).new t y p).nx = ((σ.new t y p).new s z o).nx := by
    funext x
    simp only [St.new]
    split <;> split <;> rfl
  cases ha : (σ.new s z o).new t y p
  cases hb : (σ.new t y p).new s z o
  rw [ha, hb] at hm hn
  simp only at hm hn
  subst hm hn
  rfl
theorem zig {d : DOp} (h : d.cls ≠ .eff) (h' : d.cls ≠ .effm) (A : zn) : ∃ rd mk, GenForm P d A rd mk := by
  have h2 : zao d.rc d.o ≠ .eff := fun e => h (by unfold DOp.cls; rw [e])
  have h3 : zao d.rc d.o ≠ .effm := fun e => h' (by unfold DOp.cls; rw [e])
  cases hc : zao d.rc d.o with
  | total => obtain ⟨rd, q⟩ := ze8 (P := P) (.inr hc) A; exact ⟨_, _, q.gen⟩
  | quiet => obtain ⟨rd, q⟩ := ze8 (P := P) (.inl hc) A; exact ⟨_, _, q.gen⟩
  | read => exact zmt hc A
  | make => rcases zmu (P := P) hc A with ⟨rd, q⟩ | ⟨s, z, e, f, q⟩
            · exact ⟨_, _, q.gen⟩
            · exact ⟨_, _, q.gen⟩
  | eff => exact (h2 hc).elim
  | effm => exact (h3 hc).elim
  | ld => obtain ⟨rd, q, _⟩ := zif (P := P) hc A; exact ⟨_, _, q.gen⟩
theorem zgB {d : DOp} (h : d.cls = .quiet ∨ d.cls = .total) (A : zn) : ∃ rd : AV → Prop, ReadForm P d A fun _ v => rd v := by
  refine ze8 ?_ A
  unfold DOp.cls at h
  revert h
  split
  · rename_i e; exact fun _ => .inr e
  · exact fun h => h
theorem zhG {d : DOp} {c : Cls} (h : d.cls = c) (hc : c ≠ .total) (hq : c ≠ .quiet) : zao d.rc d.o = c := by
  unfold DOp.cls at h
  revert h
  split
  · intro h
    split at h
    · exact absurd h.symm hc
    · exact absurd h.symm hq
  · exact id
theorem zfa {d j : DOp} {A : zn} {σ : St} (h : zbq d A σ) (hd : zef j.o.dst d.reads = false) (v : AV) : zbq d (zK N A j.o.dst v) σ := fun t ht => by
  rw [zhF fun x => by rw [x] at hd; simp only [zef, List.contains_eq_mem, decide_eq_false_iff_not] at hd; exact hd ht]
  exact h t ht
theorem znh {d : DOp} {A : zn} {σ : St} (h : zbq d A σ) (slot sz : Nat) (o : Ob) : zbq d A (σ.new slot sz o) := fun t ht =>
  AV.ids_mono (fun i hi => Nat.lt_of_lt_of_le hi (St.new_le _ _ _ _ _)) _ (h t ht)
theorem zlI {j i : DOp} {A : zn} {σ : St} {X : AV → AV → St → Prop} (hp : zbR j.cls i.cls = true) (hs : zeG j.o.dst i.o.dst = false) (hli : i.cls = .total ∨ zbq i A σ)
    (h : zak P j A σ fun vj σ1 => zak P i A σ1 fun vi σ2 => X vj vi σ2) : zak P i A σ fun vi σ1 => zak P j A σ1 fun vj σ2 => X vj vi σ2 := by
  rcases hli with hi | hli
  · obtain ⟨v, hv⟩ := ze9 (P := P) hi A
    rw [hv]
    exact zX (fun vj σ1 h => (hv _ _).1 h) h
  by_cases hje : j.cls = .effm
  · obtain ⟨wr, hwr⟩ := zfR (P := P) (zhG hje (by simp) (by simp)) A
    have hi : i.cls = .total ∨ i.cls = .ld := by
      rw [hje] at hp
      cases hc : i.cls <;> rw [hc] at hp <;> simp [zbR] at hp <;> simp
    rcases hi with hi | hi
    · obtain ⟨v, hv⟩ := ze9 (P := P) hi A
      rw [hv]
      exact zX (fun vj σ1 h => (hv _ _).1 h) h
    · obtain ⟨rd, hrd, hset⟩ := zif (P := P) (zhG hi (by simp) (by simp)) A
      rw [hwr] at h
      rw [hrd.iff]
      rcases h with ⟨hg, iM, old, ents, h1, h2, h3⟩ | ⟨hg, h3⟩
      · rw [hrd.iff] at h3
        obtain ⟨v, h4, h5⟩ := h3
        exact ⟨v, (hset σ iM old ents v h2).1 h4, (hwr _ _).2 (.inl ⟨hg, iM, old, ents, h1, h2, h5⟩)⟩
      · rw [hrd.iff] at h3
        obtain ⟨v, h4, h5⟩ := h3
        exact ⟨v, h4, (hwr _ _).2 (.inr ⟨hg, h5⟩)⟩
  by_cases hie : i.cls = .effm
  · obtain ⟨wr, hwr⟩ := zfR (P := P) (zhG hie (by simp) (by simp)) A
    have hq : (j.cls = .quiet ∨ j.cls = .total) ∨ j.cls = .ld ∨ j.cls = .eff := by
      rw [hie] at hp
      cases hc : j.cls <;> rw [hc] at hp <;> simp [zbR] at hp <;> simp
    rcases hq with hq | hq | hq
    · obtain ⟨rd, hrd⟩ := zgB (P := P) hq A
      rw [hrd.iff] at h
      obtain ⟨v, h1, h2⟩ := h
      exact zX (fun vi σ1 h => (hrd.iff _ _).2 ⟨v, h1, h⟩) h2
    · obtain ⟨rd, hrd, hset⟩ := zif (P := P) (zhG hq (by simp) (by simp)) A
      rw [hrd.iff] at h
      obtain ⟨v, h4, h5⟩ := h
      rw [hwr] at h5 ⊢
      rcases h5 with ⟨hg, iM, old, ents, h1, h2, h3⟩ | ⟨hg, h3⟩
      · exact .inl ⟨hg, iM, old, ents, h1, h2, (hrd.iff _ _).2 ⟨v, (hset σ iM old ents v h2).2 h4, h3⟩⟩
      · exact .inr ⟨hg, (hrd.iff _ _).2 ⟨v, h4, h3⟩⟩
    · rw [hq, hie] at hp; simp [zbR] at hp
  by_cases hj : j.cls = .eff
  · have hi : i.cls = .total := by
      rw [hj] at hp
      cases hc : i.cls <;> rw [hc] at hp <;> simp [zbR] at hp <;> rfl
    obtain ⟨v, hv⟩ := ze9 (P := P) hi A
    rw [hv]
    exact zX (fun vj σ1 h => (hv _ _).1 h) h
  by_cases hi : i.cls = .eff
  · have hq : j.cls = .quiet ∨ j.cls = .total := by
      rw [hi] at hp
      cases hc : j.cls <;> rw [hc] at hp <;> simp [zbR] at hp <;> simp
    obtain ⟨rd, hrd⟩ := zgB (P := P) hq A
    rw [hrd.iff] at h
    obtain ⟨v, h1, h2⟩ := h
    exact zX (fun vi σ1 h => (hrd.iff _ _).2 ⟨v, h1, h⟩) h2
  obtain ⟨rdj, mkj, fj⟩ := zig (P := P) hj hje A
  obtain ⟨rdi, mki, fi⟩ := zig (P := P) hi hie A
  rw [fj.iff] at h
  rcases h with ⟨vj, h1, h2⟩ | ⟨sj, zj, oj, gj, h1, h2⟩
  · rw [fi.iff] at h2
    rcases h2 with ⟨vi, h3, h4⟩ | ⟨si, zi, oi, gi, h3, h4⟩
    · rw [fi.iff]
      exact .inl ⟨vi, h3, (fj.iff _ _).2 (.inl ⟨vj, h1, h4⟩)⟩
    · rw [fi.iff]
      exact .inr ⟨si, zi, oi, gi, h3, (fj.iff _ _).2 (.inl ⟨vj, fj.up _ _ _ _ _ h1, h4⟩)⟩
  · rw [fi.iff] at h2
    rcases h2 with ⟨vi, h3, h4⟩ | ⟨si, zi, oi, gi, h3, h4⟩
    · rw [fi.iff]
      exact .inl ⟨vi, fi.down _ _ _ _ _ hli h3, (fj.iff _ _).2 (.inr ⟨sj, zj, oj, gj, h1, h4⟩)⟩
    · have hne : sj ≠ si := fun e => by rw [fj.dst _ _ _ _ h1, fi.dst _ _ _ _ h3, e] at hs; simp [zeG] at hs
      rw [fi.iff]
      refine .inr ⟨si, zi, oi, gi, h3, (fj.iff _ _).2 (.inr ⟨sj, zj, oj, gj, h1, ?_⟩)⟩
      have e1 : (σ.new sj zj oj).nx si = σ.nx si := by simp [St.new, Ne.symm hne]
      have e2 : (σ.new si zi oi).nx sj = σ.nx sj := by simp [St.new, hne]
      rw [e1, zng hne] at h4
      rw [e2]
      exact h4
theorem zmw {j i : DOp} {A : zn} {σ : St} {X : zn → St → Prop} (hp : zbR j.cls i.cls = true) (ha : zd4 j i = true) (hli : i.cls = .total ∨ zbq i A σ)
    (h : zak P j A σ fun vj σ1 => zak P i (zK N A j.o.dst vj) σ1 fun vi σ2 => X (zK N (zK N A j.o.dst vj) i.o.dst vi) σ2) :
    zak P i A σ fun vi σ1 => zak P j (zK N A i.o.dst vi) σ1 fun vj σ2 => X (zK N (zK N A i.o.dst vi) j.o.dst vj) σ2 := by
  simp only [zd4, Bool.and_eq_true, Bool.not_eq_true'] at ha
  obtain ⟨⟨h1, h2⟩, h3⟩ := ha
  simp only [zjR h1] at h
  simp only [zjR h2]
  have := zlI hp h3 hli h
  refine zX (fun vi σ1 h => zX (fun vj σ2 h => ?_) h) this
  rw [← zmv h3]
  exact h
theorem zmx {d e : DOp} (hd : d.cls ≠ .eff) {A : zn} {σ : St} {k : AV → St → Prop} (hl : zbq e A σ) (hr : zef d.o.dst e.reads = false) (h : zak P d A σ k) :
    zak P d A σ fun v σ1 => zbq e (zK N A d.o.dst v) σ1 ∧ k v σ1 := by
  by_cases he : d.cls = .effm
  · obtain ⟨wr, hwr⟩ := zfR (P := P) (zhG he (by simp) (by simp)) A
    rw [hwr] at h ⊢
    rcases h with ⟨hg, iM, old, ents, h1, h2, h3⟩ | ⟨hg, h3⟩
    · exact .inl ⟨hg, iM, old, ents, h1, h2, zfa (fun t ht => hl t ht) hr zS, h3⟩
    · exact .inr ⟨hg, zfa hl hr zS, h3⟩
  obtain ⟨rd, mk, f⟩ := zig (P := P) hd he A
  rw [f.iff] at h ⊢
  rcases h with ⟨v, h1, h2⟩ | ⟨s, z, o, g, h1, h2⟩
  · exact .inl ⟨v, h1, zfa hl hr v, h2⟩
  · exact .inr ⟨s, z, o, g, h1, zfa (znh hl _ _ _) hr _, h2⟩
theorem zfS {d : DOp} {L2 : List DOp} {K : zn → St → Prop} : ∀ (L1 : List DOp) {A : zn} {σ : St}, (∀ j ∈ L1, zbR j.cls d.cls = true ∧ zd4 j d = true) → (d.cls = .total ∨ zbq d A σ) →
    dops P N (L1 ++ d :: L2) A σ K → zak P d A σ fun v σ' => dops P N (L1 ++ L2) (zK N A d.o.dst v) σ' K
  | [], _, _, _, _, h => h
  | j :: L1, A, σ, hc, hl, h => by
    obtain ⟨hp, ha⟩ := hc j (by simp)
    have hr : zef j.o.dst d.reads = false := by simp only [zd4, Bool.and_eq_true, Bool.not_eq_true'] at ha; exact ha.1.1
    simp only [List.cons_append, dops] at h ⊢
    refine zmw (X := fun A σ => dops P N (L1 ++ L2) A σ K) hp ha hl ?_
    rcases hl with hl | hl
    · exact zX (fun v σ1 h => zfS L1 (fun j hj => hc j (by simp [hj])) (.inl hl) h) h
    · by_cases hj : j.cls = .eff
      · have hd : d.cls = .total := by
          rw [hj] at hp
          cases hc : d.cls <;> rw [hc] at hp <;> simp [zbR] at hp <;> rfl
        exact zX (fun v σ1 h => zfS L1 (fun j hj => hc j (by simp [hj])) (.inl hd) h) h
      · exact zX (fun v σ1 h => zfS L1 (fun j hj => hc j (by simp [hj])) (.inr h.1) h.2) (zmx hj hl hr h)
def zZ (ops : List Oper) (rc : Oper → Bool) (i : Nat) : DOp := match ops[i]? with | some o => ⟨zcc ops o, rc o, o⟩ | none => ⟨none, false, default⟩
def zeH (acc : List Nat) (o : Oper) : Nat := o.after.toList.foldl (fun b e => if Region.binds .any e then b ||| (2 ^ e.on ||| acc.getD e.on 0) else b) 0
def zaz (ops : List Oper) : List Nat := ops.foldl (fun acc o => acc ++ [zeH acc o]) []
def zdj (ops : List Oper) : Bool := ops.zipIdx.all fun (o, i) => o.after.toList.all fun e => !Region.binds .any e || decide (e.on < i)
def zaj (ops : List Oper) (rc : Oper → Bool) (an : List Nat) : List Nat → Bool
  | [] => true
  | j :: l => l.all (fun i => (an.getD i 0).testBit j || (zbR (zZ ops rc j).cls (zZ ops rc i).cls && zd4 (zZ ops rc j) (zZ ops rc i))) && zaj ops rc an l
def zjS (ops : List Oper) (ord : List Nat) (rc : Oper → Bool) : Bool :=
  zdj ops && zaj ops rc (zaz ops) ord && (decide ord.Nodup && ord.all fun i => decide (i < ops.length)) && ((List.range ops.length).all fun i => ord.contains i)
def zjT (ops : List Oper) (listed : Array Bool) : Prop := ∀ k o, ops[k]? = some o → listed.getD k false = true → ∀ e ∈ o.after.toList, Region.binds .any e = true → listed.getD e.on false = true
def zih (listed : Array Bool) (o : Oper) : Prop := ∀ e ∈ o.after.toList, Region.binds .any e = true → listed.getD e.on false = true
theorem zkQ {acc : List Nat} {o : Oper} {j : Nat} (h : (zeH acc o).testBit j = true) : ∃ e ∈ o.after.toList, Region.binds .any e = true ∧ (j = e.on ∨ (acc.getD e.on 0).testBit j = true) := by
  unfold zeH at h
  have key : ∀ (l : List Edge) (b : Nat), (l.foldl (fun b e => if Region.binds .any e then b ||| (2 ^ e.on ||| acc.getD e.on 0) else b) b).testBit j = true → b.testBit j = true ∨ ∃ e ∈ l, Region.binds .any e = true ∧ (j = e.on ∨ (acc.getD e.on 0).testBit j = true) := by
    intro l
    induction l with
    | nil => intro b h; exact .inl h
    | cons e l ih =>
      intro b h
      simp only [List.foldl_cons] at h
      rcases ih _ h with h | ⟨e', h1, h2⟩
      · split at h
        · rename_i hb
          simp only [Nat.testBit_or, Bool.or_eq_true, Nat.testBit_two_pow, decide_eq_true_eq] at h
          rcases h with h | h | h
          · exact .inl h
          · exact .inr ⟨e, by simp, hb, .inl h.symm⟩
          · exact .inr ⟨e, by simp, hb, .inr h⟩
        · exact .inl h
      · exact .inr ⟨e', by simp [h1], h2⟩
  rcases key _ _ h with h | h
  · simp at h
  · exact h
theorem zkR (ops : List Oper) : ∀ acc, (ops.foldl (fun acc o => acc ++ [zeH acc o]) acc).length = acc.length + ops.length := by
  induction ops with
  | nil => intro acc; rfl
  | cons o ops ih => intro acc; simp only [List.foldl_cons, ih]; simp; omega
theorem zhH {ops : List Oper} {listed : Array Bool} (hc : zjT ops listed) : ∀ (k : Nat) i o j, k ≤ ops.length → i < k → ops[i]? = some o → zih listed o → ((zaz (ops.take k)).getD i 0).testBit j = true → listed.getD j false = true := by
  intro k
  induction k with
  | zero => intro i o j _ h; omega
  | succ k ih =>
    intro i o j hk hik hi hr hb
    have hq : ops[k]? = some ops[k] := List.getElem?_eq_getElem hk
    have hanc : zaz (ops.take (k + 1)) = zaz (ops.take k) ++ [zeH (zaz (ops.take k)) ops[k]] := by
      rw [List.take_add_one, hq]
      unfold zaz
      rw [Option.toList_some, List.foldl_append, List.foldl_cons, List.foldl_nil]
    have hlen : (zaz (ops.take k)).length = k := by
      have := zkR (ops.take k) []
      simp only [zaz, List.length_nil, Nat.zero_add] at this ⊢
      rw [this, List.length_take]; omega
    rw [hanc] at hb
    by_cases hlt : i < k
    · rw [List.getD_eq_getElem?_getD, List.getElem?_append_left (by omega), ← List.getD_eq_getElem?_getD] at hb
      exact ih i o j (by omega) hlt hi hr hb
    · have hi2 : i = k := by omega
      subst hi2
      have ho : ops[i] = o := by rw [hq] at hi; exact Option.some.inj hi
      rw [List.getD_eq_getElem?_getD, List.getElem?_append_right (by omega), hlen] at hb
      simp only [Nat.sub_self, List.getElem?_cons_zero, Option.getD_some] at hb
      rw [ho] at hb
      obtain ⟨e, h1, h2, h3⟩ := zkQ hb
      rcases h3 with rfl | h3
      · exact hr e h1 h2
      · have hon := hr e h1 h2
        have hlt2 : e.on < i := by
          rw [← hlen]
          by_cases hx : e.on < (zaz (ops.take i)).length
          · exact hx
          · rw [List.getD_eq_getElem?_getD, List.getElem?_eq_none (by omega)] at h3; simp at h3
        have ho2 : ops[e.on]? = some ops[e.on] := List.getElem?_eq_getElem (by omega)
        refine ih e.on _ j (by omega) hlt2 ho2 (fun e' he' hb' => ?_) h3
        refine hc e.on _ ho2 ?_ e' he' hb'
        have hsz : e.on < listed.size := by
          by_cases hx : e.on < listed.size
          · exact hx
          · simp [Array.getD, hx] at hon
        simpa [Array.getD, hsz] using hon
theorem zew {ops : List Oper} {rc : Oper → Bool} {an : List Nat} : ∀ {l : List Nat}, zaj ops rc an l = true → ∀ (a : List Nat) j (b : List Nat) i (c : List Nat), l = a ++ j :: b ++ i :: c → (an.getD i 0).testBit j = true ∨ (zbR (zZ ops rc j).cls (zZ ops rc i).cls = true ∧ zd4 (zZ ops rc j) (zZ ops rc i) = true)
  | [], _, a, j, b, i, c, e => by simp at e
  | x :: l, h, a, j, b, i, c, e => by
    simp only [zaj, Bool.and_eq_true] at h
    cases a with
    | nil =>
      simp only [List.nil_append, List.cons_append, List.cons.injEq] at e
      obtain ⟨rfl, e⟩ := e
      have := List.all_eq_true.1 h.1 i (by rw [e]; simp)
      simpa only [Bool.or_eq_true, Bool.and_eq_true] using this
    | cons y a =>
      simp only [List.cons_append, List.cons.injEq] at e
      exact zew h.2 a j b i c e.2
theorem zan {ops : List Oper} {rc : Oper → Bool} {an : List Nat} : ∀ {l l' : List Nat}, l'.Sublist l → zaj ops rc an l = true → zaj ops rc an l' = true
  | _, _, .slnil, h => h
  | _, _, .cons a s, h => by simp only [zaj, Bool.and_eq_true] at h; exact zan s h.2
  | _, _, .cons_cons a s, h => by
    simp only [zaj, Bool.and_eq_true] at h ⊢
    exact ⟨List.all_eq_true.2 fun i hi => List.all_eq_true.1 h.1 i (s.subset hi), zan s h.2⟩
theorem zfb {rc : Bool} {o : Oper} {A : zn} {σ : St} {K : zn → St → Prop} (h : zbk P rc o A σ fun v σ' => K (zK N A o.dst v) σ') : zhx P N o A σ K := by
  unfold zbk at h
  unfold zhx
  split
  · rename_i f args ts e
    simp only [e] at h
    cases rc with
    | true =>
      simp only [zgg] at h
      unfold ze4
      split at h
      · rename_i n first caps e
        rw [e]
        rcases h with ⟨r, h1, h2⟩ | ⟨sz, ob, g, slot, h1, h2, h3⟩
        · exact h1.use h2
        · exact h1.use slot h3
      · exact h.elim
    | false => exact h
  · rename_i hn
    split at h
    · rename_i f args ts e; exact (hn _ _ _ e).elim
    · by_cases hl : ∃ t x, o.op = .load t x
      · obtain ⟨t, x, ho⟩ := hl
        rw [ho] at h ⊢
        cases rc with
        | false => exact h
        | true =>
          simp only [zfQ, zgZ, aop] at h ⊢
          cases hx : zaF P (fun _ => none) t (zd A x) with
          | none => rw [hx] at h; simp [OK] at h
          | some v =>
            rw [hx] at h
            rw [ziO (m' := σ.m) (fun i o h => by cases h) hx]
            exact h
      · rw [zhC fun t x e => hl ⟨t, x, e⟩] at h
        exact h
variable {r : Option Nat}
theorem zjU {d : DOp} {A : zn} {σ : St} {S : Ctx} {a : Act} (hS : SRel σ S) (hT : TRel N S A a) : zbq d A σ := fun t _ => AV.ids_mono (fun i hi => hS.kn i hi) _ (VRel.ids _ _ (hT.val t))
theorem zni {ops : List Oper} {rc : Oper → Bool} {K : zn → St → Prop} {Q : Exit → Act → World → Prop} (hed : zdj ops = true) :
    ∀ (fuel : Nat) (L : List Nat) (listed : Array Bool) {A : zn} {σ : St} {S : Ctx} {a : Act}, listed.size = ops.length → zjT ops listed → (∀ i, i ∈ L ↔ i < ops.length ∧ listed.getD i true = false) → L.Nodup → L.length ≤ fuel → zaj ops rc (zaz ops) L = true →
      dops P N (L.map (zZ ops rc)) A σ K → SRel σ S → TRel N S A a →
      (∀ S' σ' A' a', Ev S S' → SRel σ' S' → TRel N S' A' a' → K A' σ' → Q .normal a' S'.w) → wpAnyIn (Fw r) 0 P .any ops.toArray Q fuel listed a S.w := by
  intro fuel
  have hdone : ∀ (L : List Nat) (listed : Array Bool), listed.size = ops.length → (∀ i, i ∈ L ↔ i < ops.length ∧ listed.getD i true = false) → Region.ready .any ops.toArray listed = [] → L = [] := by
    intro L listed hsz hL hr
    apply Classical.byContradiction
    intro hne
    have hex : ∃ i, i < ops.length ∧ listed.getD i true = false := by
      obtain ⟨x, hx⟩ := List.exists_mem_of_ne_nil L hne
      exact ⟨x, (hL x).1 hx⟩
    obtain ⟨i, ⟨h1, h2⟩, h3⟩ := least hex
    have : i ∈ Region.ready .any ops.toArray listed := by
      unfold Region.ready
      rw [List.mem_filter]
      refine ⟨by simpa using h1, ?_⟩
      have ho : ops[i]? = some ops[i] := List.getElem?_eq_getElem h1
      simp only [h2, List.getElem?_toArray, ho, Option.map_some, Option.getD_some, Bool.not_false, Bool.true_and]
      rw [Array.all_eq_true_iff_forall_mem]
      intro e he
      simp only [Bool.or_eq_true, Bool.not_eq_true']
      by_cases hb : Region.binds .any e = true
      · right
        have hd := List.all_eq_true.1 hed (ops[i], i) (by rw [List.mem_zipIdx_iff_getElem?]; exact ho)
        have hd2 := List.all_eq_true.1 hd e (by simpa using he)
        simp only [hb, Bool.not_true, Bool.false_or, decide_eq_true_eq] at hd2
        by_cases hx : listed.getD e.on true = false
        · have := h3 e.on ⟨by omega, hx⟩; omega
        · have hlt : e.on < listed.size := by omega
          simpa [Array.getD, hlt] using hx
      · left; simpa using hb
    rw [hr] at this
    simp at this
  induction fuel with
  | zero =>
    intro L listed A σ S a hsz hcl hL hnd hf hp h hS hT hQ
    have : L = [] := List.length_eq_zero_iff.1 (by omega)
    subst this
    refine ⟨?_, hQ S σ A a (Ev.refl S) hS hT h⟩
    unfold Region.ready
    rw [List.filter_eq_nil_iff]
    intro i hi
    have := (hL i).2
    simp at this hi
    simp [this hi]
  | succ fuel ih =>
    intro L listed A σ S a hsz hcl hL hnd hf hp h hS hT hQ
    refine ⟨fun hr => ?_, fun i hi => ?_⟩
    · have := hdone L listed hsz hL hr
      subst this
      exact hQ S σ A a (Ev.refl S) hS hT h
    · unfold Region.ready at hi
      rw [List.mem_filter] at hi
      obtain ⟨hi1, hi2⟩ := hi
      have hi1 : i < ops.length := by simpa using hi1
      have ho : ops[i]? = some ops[i] := List.getElem?_eq_getElem hi1
      simp only [List.getElem?_toArray, ho, Option.map_some, Option.getD_some, Bool.and_eq_true, Bool.not_eq_true'] at hi2
      obtain ⟨hnl, hall⟩ := hi2
      have hready : zih listed ops[i] := fun e he hb => by
        rw [Array.all_eq_true_iff_forall_mem] at hall
        have := hall e (by simpa using he)
        simpa [hb] using this
      obtain ⟨L1, L2, rfl⟩ := List.append_of_mem ((hL i).2 ⟨hi1, hnl⟩)
      have hd : zZ ops rc i = ⟨zcc ops ops[i], rc ops[i], ops[i]⟩ := by simp [zZ, ho]
      have hcomp : ∀ j ∈ L1.map (zZ ops rc), zbR j.cls (zZ ops rc i).cls = true ∧ zd4 j (zZ ops rc i) = true := by
        intro x hx
        obtain ⟨j, hj, rfl⟩ := List.mem_map.1 hx
        obtain ⟨l1, l2, rfl⟩ := List.append_of_mem hj
        rcases zew hp l1 j l2 i L2 (by simp) with hb | hb
        · exfalso
          have hlj : listed.getD j false = true := zhH hcl ops.length i ops[i] j (Nat.le_refl _) hi1 ho hready (by rw [List.take_length]; exact hb)
          have := (hL j).1 (by simp)
          have hlt : j < listed.size := by omega
          have h1 := this.2
          simp [Array.getD, hlt] at h1 hlj
          rw [h1] at hlj; cases hlj
        · exact hb
      rw [List.map_append, List.map_cons] at h
      have hb := zfS (L1.map (zZ ops rc)) hcomp (.inr (zjU hS hT)) h
      rw [hd] at hb
      have hnd' : (L1 ++ L2).Nodup := (List.nodup_append.1 hnd) |> fun q => by
        have := hnd
        rw [List.nodup_append] at this ⊢
        exact ⟨this.1, (List.nodup_cons.1 this.2.1).2, fun a ha b hb => this.2.2 a ha b (by simp [hb])⟩
      have hiL : i ∉ L1 ++ L2 := fun hx => by
        rw [List.nodup_append] at hnd
        rcases List.mem_append.1 hx with hx | hx
        · exact hnd.2.2 i hx i (by simp) rfl
        · exact (List.nodup_cons.1 hnd.2.1).1 hx
      have hget : ∀ k b, (listed.setIfInBounds i true).getD k b = if k = i then true else listed.getD k b := fun k b => by
        by_cases hk : k = i
        · subst hk; simp [Array.getD, hsz, hi1]
        · simp only [Array.getD, Array.size_setIfInBounds, hk, if_false]
          split
          · rename_i hlt
            simp only [Array.getInternal_eq_getElem]
            exact Array.getElem_setIfInBounds_ne (by simpa using hlt) (fun x => hk x.symm)
          · rfl
      have next : ∀ S' σ' A' a', Ev S S' → SRel σ' S' → TRel N S' A' a' → dops P N ((L1 ++ L2).map (zZ ops rc)) A' σ' K → wpAnyIn (Fw r) 0 P .any ops.toArray Q fuel (listed.setIfInBounds i true) a' S'.w := by
        intro S' σ' A' a' k1 k2 k3 k4
        refine ih (L1 ++ L2) _ (by simpa using hsz) ?_ (fun x => ?_) hnd' (by simp at hf ⊢; omega) (zan (by simp) hp) k4 k2 k3 fun S2 σ2 A2 a2 q1 q2 q3 q4 => hQ S2 σ2 A2 a2 (k1.trans q1) q2 q3 q4
        · intro k o hk hl e he hbi
          rw [hget]
          split
          · rfl
          · rw [hget] at hl
            split at hl
            · rename_i e1; subst e1
              rw [ho] at hk
              injection hk with hk
              subst hk
              exact hready e he hbi
            · exact hcl k o hk hl e he hbi
        · rw [hget]
          by_cases hx : x = i
          · subst hx; simpa using hiL
          · rw [if_neg hx, ← hL x]
            simp [hx]
      unfold wpOpIn
      simp only [List.getElem?_toArray, ho]
      unfold zak at hb
      rcases ze6 hb hT with ⟨hw, hb⟩ | ⟨hw, hb⟩
      · rw [if_pos hw]
        exact zfO (zfb (K := fun A' σ' => dops P N ((L1 ++ L2).map (zZ ops rc)) A' σ' K) (by rw [List.map_append]; exact hb)) hS hT next
      · rw [if_neg (by simp [hw])]
        exact ⟨zcd, next S σ _ _ (Ev.refl S) hS (hT.put (r := zS) (v := undef) ops[i].dst (by simp [zS, VRel])) (by rw [List.map_append]; exact hb)⟩
theorem zg1 (S : Ctx) : Ev S { S with w := { S.w with drawn := S.w.drawn + 1 } } := ⟨Nat.le_refl _, fun _ _ _ => rfl, fun _ _ h => h, fun _ h => ⟨rfl, h⟩, fun _ _ => rfl, rfl, rfl, rfl, rfl⟩
theorem zcJ : ∀ {l m : List Nat}, l.Nodup → (∀ x ∈ l, x ∈ m) → l.length ≤ m.length
  | [], _, _, _ => by simp
  | a :: l, m, h, hs => by
    have h' := List.nodup_cons.1 h
    have := zcJ (m := m.erase a) h'.2 fun x hx => by
      have hne : x ≠ a := fun e => h'.1 (e ▸ hx)
      exact (List.mem_erase_of_ne hne).2 (hs x (by simp [hx]))
    have hl := List.length_erase_of_mem (hs a (by simp))
    have hpos : 0 < m.length := List.length_pos_of_mem (hs a (by simp))
    simp only [List.length_cons]
    omega
theorem znj {K : Exit → zn → St → Prop} {A : zn} {σ : St} {id : Nat} {ops : List Oper} (ord : List Nat) (rc : Oper → Bool) (hm : P.follows .mixedOrders = true) (hc : zjS ops ord rc = true) (h : dops P N (ord.map (zZ ops rc)) A σ (K .normal)) :
    AWP P r N (.region id ops.toArray true) K A σ := by
  intro S a hS hT
  simp only [zjS, Bool.and_eq_true, decide_eq_true_eq] at hc
  obtain ⟨⟨⟨h1, h2⟩, h3⟩, h4⟩ := hc
  refine wpIn_region_any hm ?_
  have hk := zg1 S
  let S1 : Ctx := { S with w := { S.w with drawn := S.w.drawn + 1 } }
  have hS1 : SRel σ S1 := ⟨hS.kn, fun i o hi => by
    obtain ⟨g1, g2, g3, g4⟩ := hS.live i o hi
    exact ⟨g1, g2, g3, OBRel.mono hk g1 rfl g4⟩, hS.inj, hS.gl.ev hk⟩
  have hnd : ord.Nodup := h3.1
  have hmem : ∀ i, i ∈ ord ↔ i < ops.length := fun i =>
    ⟨fun hi => by simpa using List.all_eq_true.1 h3.2 i hi, fun hi => by simpa using List.all_eq_true.1 h4 i (List.mem_range.2 hi)⟩
  have hlen : ord.length ≤ ops.length := by
    have := List.nodup_range (n := ops.length)
    exact Nat.le_of_not_lt fun hlt => by
      have hsub : ∀ x ∈ ord, x ∈ List.range ops.length := fun x hx => List.mem_range.2 ((hmem x).1 hx)
      have := zcJ hnd hsub
      simp at this
      omega
  have := zni (P := P) (N := N) (r := r) (Q := zie N S K) (rc := rc) h1 ops.length ord (Array.replicate ops.length false) (A := A) (σ := σ) (S := S1) (a := a) (by simp) ?_ ?_ hnd hlen h2 h hS1 (hT.mono hk) ?_
  · have e : ops.toArray.size = ops.length := by simp
    rw [e]; exact this
  · intro k o hk hl
    simp only [Array.getD] at hl
    split at hl
    · simp at hl
    · rename_i hlt
      have := (List.getElem?_eq_some_iff.1 hk).1
      simp at hlt
      omega
  · intro i
    rw [hmem]
    constructor
    · intro hi; exact ⟨hi, by simp [Array.getD, hi]⟩
    · exact fun hi => hi.1
  · intro S' σ' A' a' k1 k2 k3 k4
    exact ⟨S', A', σ', rfl, hk.trans k1, k2, k3, k4⟩
def zbK (ops : List Oper) (rc : Oper → Bool) (o : Oper) : DOp := ⟨zcc ops o, rc o, o⟩
def zii (ops : List Oper) (rc : Oper → Bool) : Bool := zjS ops (List.range ops.length) rc
theorem zfT {K : Exit → zn → St → Prop} {A : zn} {σ : St} {id : Nat} {ops : List Oper} (rc : Oper → Bool) (hm : P.follows .mixedOrders = true) (hc : zii ops rc = true) (h : dops P N (ops.map (zbK ops rc)) A σ (K .normal)) :
    AWP P r N (.region id ops.toArray true) K A σ := by
  refine znj (List.range ops.length) rc hm hc ?_
  have : (List.range ops.length).map (zZ ops rc) = ops.map (zbK ops rc) := by
    apply List.ext_getElem
    · simp
    · intro i h1 h2
      have hi : i < ops.length := by simpa using h1
      simp [zZ, zbK, List.getElem?_eq_getElem hi]
  rw [this]; exact h
end
end Go.Proofs.YtckabcbfbpejkaaGreatDoor.Av
namespace Go.Proofs.YtckabcbfbpejkaaGreatDoor.Av
open Go
set_option linter.unusedSimpArgs false
set_option linter.unusedVariables false
def OKv (x : Option AV) (k : AV → Prop) : Prop := match x with | some v => k v | none => False
@[simp] theorem zq4 (v : AV) (k : AV → Prop) : OKv (some v) k = k v := (rfl)
@[simp] theorem zq5 (k : AV → Prop) : OKv none k = False := (rfl)
@[congr] theorem zqJ {tk : Prop} (hx : (True ∧ True) = tk) {x y : Option AV} {k : AV → Prop} (h : x = y) : OKv x k = OKv y k := by rw [h]
def OKr (x : Option Res) (k : Res → Prop) : Prop := match x with | some v => k v | none => False
@[simp] theorem zg2 (v : Res) (k : Res → Prop) : OKr (some v) k = k v := (rfl)
@[simp] theorem zq6 (k : Res → Prop) : OKr none k = False := (rfl)
@[congr] theorem zqK {tk : Prop} (hx : (True ∧ True) = tk) {x y : Option Res} {k : Res → Prop} (h : x = y) : OKr x k = OKr y k := by rw [h]
theorem zoB {x : Option AV} {slot : Nat} {σ : St} {k : AV → St → Prop} : OK (x.map .val) (Res.go slot σ k) = OKv x fun v => k v σ := by cases x <;> rfl
section
variable {P : Program} {N : Nat} {A A' : zn} {σ σ' : St} {K : zn → St → Prop} {rest : List DOp}
@[congr] theorem zqL {tk : Prop} (hx : (True ∧ True) = tk) {r : Option Nat} {c : Code} {K : Exit → zn → St → Prop} (h : A = A') : AWP P r N c K A σ = AWP P r N c K A' σ := by rw [h]
@[congr] theorem zpL {tk : Prop} (hx : (True ∧ True) = tk) {L : List DOp} (h : A = A') : dops P N L A σ K = dops P N L A' σ K := by rw [h]
@[congr] theorem zoC {tk : Prop} (hx : (True ∧ True) = tk) {f : FuncId} {as as' : List AV} {K : AV → St → Prop} (h2 : as = as') : ACalls P f as σ K = ACalls P f as' σ K := by rw [h2]
@[congr] theorem zpg {tk : Prop} (hx : (True ∧ True) = tk) {K1 : zn → St → Prop} {K : Exit → zn → St → Prop} {e : Exit} (h : A = A') : za8 K1 K e A σ = za8 K1 K e A' σ := by rw [h]
@[congr] theorem zoD {tk : Prop} (hx : (True ∧ True) = tk) {id : Nat} {K : Exit → zn → St → Prop} {e : Exit} (h : A = A') : za5 id K e A σ = za5 id K e A' σ := by rw [h]
@[congr] theorem zop {tk : Prop} (hx : (True ∧ True) = tk) {g : Option (Option Nat × Bool)} {y n : Prop} : zbp g A y n = zbp g A y n := (rfl)
@[simp ↓] theorem zq7 : dops P N [] A σ K = K A σ := (rfl)
@[simp] theorem zoE {K1 : zn → St → Prop} {K : Exit → zn → St → Prop} : za8 K1 K .normal A σ = K1 A σ := (rfl)
@[simp] theorem zqM {K1 : zn → St → Prop} {K : Exit → zn → St → Prop} : za8 K1 K .ret A σ = K .ret A σ := (rfl)
@[simp] theorem zpM {K1 : zn → St → Prop} {K : Exit → zn → St → Prop} {i : Nat} : za8 K1 K (.exit i) A σ = K (.exit i) A σ := (rfl)
@[simp] theorem zoq {id : Nat} {K : Exit → zn → St → Prop} : za5 id K .normal A σ = K .normal A σ := (rfl)
@[simp] theorem zpN {id : Nat} {K : Exit → zn → St → Prop} : za5 id K .ret A σ = K .ret A σ := (rfl)
theorem zph {id i : Nat} {K : Exit → zn → St → Prop} : za5 id K (.exit i) A σ = if i = id then K .normal A σ else K (.exit i) A σ := (rfl)
@[simp] theorem zpi {id : Nat} {K : Exit → zn → St → Prop} : za5 id K (.exit id) A σ = K .normal A σ := by simp [za5]
@[simp] theorem zoF {id i : Nat} {K : Exit → zn → St → Prop} (h : i ≠ id) : za5 id K (.exit i) A σ = K (.exit i) A σ := by simp [za5, h]
@[simp] theorem zhI {b : Bool} {y n : Prop} : zee (.raw (.bool b)) y n = ((b = true → y) ∧ (b = false → n)) := (rfl)
@[congr] theorem zpj {tk : Prop} (hx : (True ∧ True) = tk) {v v' : AV} {y n : Prop} (h : v = v') : zee v y n = zee v' y n := by rw [h]
variable {dst : Option Nat} {ty : TypeId} {pos : String} {aft : Array Edge} {gd : Option (Nat × Bool)} {rc : Bool} {x y c a b : Operand} {t f : Nat}
theorem zpO {t' : Nat} {b' : Bool} {o : Oper} : dops P N (⟨some (some t', b'), rc, o⟩ :: rest) A σ K = match A t' with
    | .raw (.bool c) => (c = b' → dops P N (⟨none, rc, o⟩ :: rest) A σ K) ∧ (c ≠ b' → dops P N rest (zK N A o.dst zS) σ K)
    | .raw (.tuple _) => dops P N rest (zK N A o.dst zS) σ K
    | _ => False := (rfl)
def guarded (v : AV) (b : Bool) (yes no : Prop) : Prop := match v with
    | .raw (.bool c) => (c = b → yes) ∧ (c ≠ b → no)
    | .raw (.tuple _) => no
    | _ => False
@[congr] theorem zor {tk : Prop} (hx : (True ∧ True) = tk) {v v' : AV} {b : Bool} {y n : Prop} (h : v = v') : guarded v b y n = guarded v' b y n := by rw [h]
@[simp ↓] theorem zq8 {t' : Nat} {b' : Bool} {o : Oper} : dops P N (⟨some (some t', b'), rc, o⟩ :: rest) A σ K = guarded (A t') b' (dops P N (⟨none, rc, o⟩ :: rest) A σ K) (dops P N rest (zK N A o.dst zS) σ K) := (rfl)
@[simp] theorem zoG {b : Bool} {y n : Prop} : guarded (.raw (.bool b)) b y n = y := by simp [guarded]
@[simp] theorem zpP {y n : Prop} : guarded (.raw (.bool true)) false y n = n := by simp [guarded]
@[simp] theorem zpQ {y n : Prop} : guarded (.raw (.bool false)) true y n = n := by simp [guarded]
theorem zh {c b : Bool} {y n : Prop} (h1 : c = b → y) (h2 : c = !b → n) : guarded (.raw (.bool c)) b y n := ⟨h1, fun h => h2 (by cases c <;> cases b <;> simp_all)⟩
@[simp] theorem zos {b : Bool} {y n : Prop} : guarded zS b y n = n := (rfl)
@[simp ↓] theorem zrQ : dops P N (⟨none, rc, ⟨dst, .move x, ty, pos, aft, gd⟩⟩ :: rest) A σ K = dops P N rest (zK N A dst (zd A x)) σ K := (rfl)
@[simp ↓] theorem zqN : dops P N (⟨none, rc, ⟨dst, .assign x, ty, pos, aft, gd⟩⟩ :: rest) A σ K = dops P N rest (zK N A dst (zd A x)) σ K := (rfl)
theorem zaP {x : Option AV} : OK (x.map .val) (Res.go (dst.getD 0) σ fun v σ' => dops P N rest (zK N A dst v) σ' K) = OKv x fun v => dops P N rest (zK N A dst v) σ K := zoB
@[simp] theorem zsj {m : zL} : zgZ false m = m := (rfl)
@[simp] theorem zsk {m : zL} : zgZ true m = fun _ => none := (rfl)
@[simp ↓] theorem zrR : dops P N (⟨none, rc, ⟨dst, .load t x, ty, pos, aft, gd⟩⟩ :: rest) A σ K = OKv (zaF P (zgZ rc σ.m) t (zd A x)) fun v => dops P N rest (zK N A dst v) σ K := zaP
@[simp ↓] theorem zq9 {op : BinOp} {u : TypeId} : dops P N (⟨none, rc, ⟨dst, .binOp op t x y u, ty, pos, aft, gd⟩⟩ :: rest) A σ K = OKv (zfE P op t (zbo y) (zd A x) (zd A y)) fun v => dops P N rest (zK N A dst v) σ K := zaP
@[simp ↓] theorem zrS {op : UnOp} : dops P N (⟨none, rc, ⟨dst, .unOp op t x, ty, pos, aft, gd⟩⟩ :: rest) A σ K = OKv (zjs op (zd A x)) fun v => dops P N rest (zK N A dst v) σ K := zaP
@[simp ↓] theorem zpR {u : TypeId} : dops P N (⟨none, rc, ⟨dst, .convert t u x, ty, pos, aft, gd⟩⟩ :: rest) A σ K = OKv (zdg P t u (zd A x)) fun v => dops P N rest (zK N A dst v) σ K := zaP
@[simp ↓] theorem zoH : dops P N (⟨none, rc, ⟨dst, .fieldAddr t x f, ty, pos, aft, gd⟩⟩ :: rest) A σ K = OKv (zck P t f (zd A x)) fun v => dops P N rest (zK N A dst v) σ K := zaP
@[simp ↓] theorem zra : dops P N (⟨none, rc, ⟨dst, .field t x f, ty, pos, aft, gd⟩⟩ :: rest) A σ K = OKv (zeB P t f (zd A x)) fun v => dops P N rest (zK N A dst v) σ K := zaP
@[simp ↓] theorem zoI : dops P N (⟨none, rc, ⟨dst, .indexAddr t x y, ty, pos, aft, gd⟩⟩ :: rest) A σ K = OKv (zdR P t (zd A x) (zd A y)) fun v => dops P N rest (zK N A dst v) σ K := zaP
@[simp ↓] theorem zrb : dops P N (⟨none, rc, ⟨dst, .index t x y, ty, pos, aft, gd⟩⟩ :: rest) A σ K = OKv (zeX P t (zd A x) (zd A y)) fun v => dops P N rest (zK N A dst v) σ K := zaP
@[simp ↓] theorem zrc {lo hi : Option Operand} : dops P N (⟨none, rc, ⟨dst, .slice t x lo hi none, ty, pos, aft, gd⟩⟩ :: rest) A σ K = OKv (zdU P t (zd A x) (lo.map (zd A)) (hi.map (zd A))) fun v => dops P N rest (zK N A dst v) σ K := zaP
@[simp ↓] theorem zqO {lo hi : Option Operand} {z : Operand} : dops P N (⟨none, rc, ⟨dst, .slice t x lo hi (some z), ty, pos, aft, gd⟩⟩ :: rest) A σ K = OKv (zdS P t (zd A x) (lo.map (zd A)) (hi.map (zd A)) (zd A z)) fun v => dops P N rest (zK N A dst v) σ K := zaP
@[simp ↓] theorem zpk {g : Fn} {first caps : Array Operand} : dops P N (⟨none, rc, ⟨dst, .makeFunc g first caps, ty, pos, aft, gd⟩⟩ :: rest) A σ K = dops P N rest (zK N A dst (.fn g (first.toList.map (zd A)) (caps.toList.map (zd A)))) σ K := (rfl)
def zjV (c a b : AV) : Option AV := match c with | .raw (.bool c) => some (if c = true then a else b) | _ => none
@[simp ↓] theorem zrT : dops P N (⟨none, rc, ⟨dst, .pick c a b, ty, pos, aft, gd⟩⟩ :: rest) A σ K = OKv (zjV (zd A c) (zd A a) (zd A b)) fun v => dops P N rest (zK N A dst v) σ K := by
  show OK (match zd A c with | .raw (.bool c) => some (.val (if c = true then zd A a else zd A b)) | _ => none) _ = _
  unfold zjV
  split <;> rfl
def zfc (x : AV) : Option AV := match x with
  | .pp row off => some (.pp row off)
  | .rp i k off => some (.rp i k off)
  | _ => none
@[simp ↓] theorem zpl : dops P N (⟨none, rc, ⟨dst, .nilCheck x, ty, pos, aft, gd⟩⟩ :: rest) A σ K = OKv (zfc (zd A x)) fun v => dops P N rest (zK N A dst v) σ K := by
  show OK (match zd A x with | .pp row off => some (.val (.pp row off)) | .rp i k off => some (.val (.rp i k off)) | _ => none) _ = _
  unfold zfc
  split <;> rfl
def zfU (t : AV) (ix : Nat) : Option AV := match t with | .tup vs => vs[ix]? | _ => none
@[simp ↓] theorem zpS {ix : Nat} : dops P N (⟨none, rc, ⟨dst, .extract x ix, ty, pos, aft, gd⟩⟩ :: rest) A σ K = OKv (zfU (zd A x) ix) fun v => dops P N rest (zK N A dst v) σ K := by
  show OK (match zd A x with | .tup vs => (vs[ix]?).map .val | _ => none) _ = _
  unfold zfU
  split
  · exact zaP
  · rfl
@[simp ↓] theorem zrd {ps : Array (Nat × Operand)} : dops P N (⟨none, rc, ⟨dst, .build t ps, ty, pos, aft, gd⟩⟩ :: rest) A σ K = OKv (zdW P t (ps.toList.map fun p => (p.1, zd A p.2))) fun v => dops P N rest (zK N A dst v) σ K := zaP
@[simp ↓] theorem zsl {u : TypeId} : dops P N (⟨none, rc, ⟨dst, .call { callee := .builtin .len, args := #[x], argTypes := #[u] }, ty, pos, aft, gd⟩⟩ :: rest) A σ K = OKv (zca P σ.m u (zd A x)) fun v => dops P N rest (zK N A dst v) σ K := zaP
@[simp ↓] theorem zsm {u : TypeId} : dops P N (⟨none, rc, ⟨dst, .call { callee := .builtin .cap, args := #[x], argTypes := #[u] }, ty, pos, aft, gd⟩⟩ :: rest) A σ K = OKv (zhi P u (zd A x)) fun v => dops P N rest (zK N A dst v) σ K := zaP
@[simp ↓] theorem zsn {ts : Array TypeId} : dops P N (⟨none, rc, ⟨dst, .call { callee := .builtin .max, args := #[x, y], argTypes := ts }, ty, pos, aft, gd⟩⟩ :: rest) A σ K = OKv (zhg (zd A x) (zd A y)) fun v => dops P N rest (zK N A dst v) σ K := zaP
@[simp ↓] theorem zrU {z : Operand} {ts : Array TypeId} : dops P N (⟨none, rc, ⟨dst, .call { callee := .builtin .min, args := #[x, y, z], argTypes := ts }, ty, pos, aft, gd⟩⟩ :: rest) A σ K = OKv (zfD (zd A x) (zd A y) (zd A z)) fun v => dops P N rest (zK N A dst v) σ K := zaP
@[simp ↓] theorem zso {ts : Array TypeId} : dops P N (⟨none, rc, ⟨dst, .call { callee := .builtin .min, args := #[x, y], argTypes := ts }, ty, pos, aft, gd⟩⟩ :: rest) A σ K = OKv (zhh (zd A x) (zd A y)) fun v => dops P N rest (zK N A dst v) σ K := zaP
@[simp ↓] theorem zre : dops P N (⟨none, rc, ⟨dst, .alloc t, ty, pos, aft, gd⟩⟩ :: rest) A σ K = OKr (zdJ P t) (Res.go (dst.getD 0) σ fun v σ' => dops P N rest (zK N A dst v) σ' K) := (rfl)
@[simp ↓] theorem zsp : dops P N (⟨none, rc, ⟨dst, .box t x, ty, pos, aft, gd⟩⟩ :: rest) A σ K = OKr (zgc (zd A x)) (Res.go (dst.getD 0) σ fun v σ' => dops P N rest (zK N A dst v) σ' K) := (rfl)
@[simp ↓] theorem zot {n : Nat} {ps : Array (Nat × Operand)} : dops P N (⟨none, rc, ⟨dst, .buildSlice t n ps, ty, pos, aft, gd⟩⟩ :: rest) A σ K = OKr (zbz P t n (ps.toList.map fun p => (p.1, zd A p.2))) (Res.go (dst.getD 0) σ fun v σ' => dops P N rest (zK N A dst v) σ' K) := (rfl)
@[simp ↓] theorem zrf : dops P N (⟨none, rc, ⟨dst, .store t x y, ty, pos, aft, gd⟩⟩ :: rest) A σ K = OKr (zeA P σ.m t (zd A x) (zd A y)) (Res.go (dst.getD 0) σ fun v σ' => dops P N rest (zK N A dst v) σ' K) := (rfl)
@[simp ↓] theorem zqP {u : TypeId} : dops P N (⟨none, rc, ⟨dst, .call { callee := .builtin .append, args := #[x, y], argTypes := #[u, u] }, ty, pos, aft, gd⟩⟩ :: rest) A σ K = OKr (zM P σ.m u (zd A x) (zd A y)) (Res.go (dst.getD 0) σ fun v σ' => dops P N rest (zK N A dst v) σ' K) := by
  show OK (if u = u then zM P σ.m u (zd A x) (zd A y) else zdX P u u (zd A x) (zd A y)) _ = _
  rw [if_pos rfl]; rfl
theorem zrV {u u' : TypeId} (hne : u ≠ u') : dops P N (⟨none, rc, ⟨dst, .call { callee := .builtin .append, args := #[x, y], argTypes := #[u, u'] }, ty, pos, aft, gd⟩⟩ :: rest) A σ K = OKr (zdX P u u' (zd A x) (zd A y)) (Res.go (dst.getD 0) σ fun v σ' => dops P N rest (zK N A dst v) σ' K) := by
  show OK (if u = u' then zM P σ.m u (zd A x) (zd A y) else zdX P u u' (zd A x) (zd A y)) _ = _
  rw [if_neg hne]; rfl
@[congr] theorem zoJ {tk : Prop} (hx : (True ∧ True) = tk) {slot : Nat} {k : AV → St → Prop} {r r' : Res} (h : r = r') : Res.go slot σ k r = Res.go slot σ k r' := by rw [h]
@[simp] theorem zoK {slot : Nat} {k : AV → St → Prop} {a : AV} : Res.go slot σ k (.val a) = k a σ := (rfl)
@[simp] theorem zpT {slot sz : Nat} {k : AV → St → Prop} {es : List AV} {v : Id → AV} : Res.go slot σ k (.mk sz es v) = k (v ⟨slot, σ.nx slot, sz⟩) (σ.new slot sz (.buf es)) := (rfl)
@[simp] theorem zs2 {slot : Nat} {k : AV → St → Prop} {i : Id} {es : List AV} : Res.go slot σ k (.wr i es) = k zS (σ.set i (.buf es)) := (rfl)
@[simp] theorem zpU {slot : Nat} {k : AV → St → Prop} {old : Id} {es : List AV} {v : Id → AV} : Res.go slot σ k (.mv old es v) = k (v ⟨slot, σ.nx slot, old.sz⟩) ((σ.del old).new slot old.sz (.buf es)) := (rfl)
@[simp] theorem zsq {slot : Nat} {k : AV → St → Prop} {v : Id → AV} : Res.go slot σ k (.mkm v) = k (v ⟨slot, σ.nx slot, 0⟩) (σ.new slot 0 (.map [])) := (rfl)
@[simp] theorem zsr {slot : Nat} {k : AV → St → Prop} {i : Id} {ents : List (Value × AV)} : Res.go slot σ k (.wrm i ents) = k zS (σ.set i (.map ents)) := (rfl)
@[simp] theorem zpV {t : Nat} : zbo (.tmp t) = none := (rfl)
@[simp] theorem zpW {k : IntKind} {n : Int} : zbo (.const (.int k n)) = none := (rfl)
@[simp] theorem zpm {b : Bool} : zbo (.const (.bool b)) = none := (rfl)
@[simp] theorem zpX {b : ByteArray} : zbo (.const (.string b)) = none := (rfl)
@[simp] theorem zpY {p : Option Addr} : zbo (.const (.pointer p)) = none := (rfl)
@[simp] theorem zoL : zbo (.const .nilIface) = some true := (rfl)
@[simp] theorem zpZ {p : Option Nat} : zbo (.const (.map p)) = none := (rfl)
@[simp] theorem zp0 {cs : Array Value} : zbo (.const (.agg cs)) = none := (rfl)
@[simp] theorem zpn {f : FuncId} : zbo (.func f) = none := (rfl)
@[simp] theorem zp1 : zbo (.const (.slice none 0 0)) = some false := (rfl)
@[simp] theorem zrg {op : BinOp} {a b : AV} : zfE P op t none a b = zaB P op t a b := (rfl)
@[simp] theorem zrh {op : BinOp} {a b : AV} : zfE P op t (some false) a b = zeD P op t a := (rfl)
@[simp] theorem zri {op : BinOp} {a b : AV} : zfE P op t (some true) a b = zeE P op t a := (rfl)
@[simp] theorem zss {slot : Nat} {k : AV → St → Prop} {i : Id} {es : List AV} {v : AV} : Res.go slot σ k (.wrv i es v) = k v (σ.set i (.buf es)) := (rfl)
@[simp] theorem zst {slot sz : Nat} {k : AV → St → Prop} {o : Ob} {v : Id → AV} : Res.go slot σ k (.mko sz o v) = k (v ⟨slot, σ.nx slot, sz⟩) (σ.new slot sz o) := (rfl)
@[simp] theorem zsu {slot : Nat} {k : AV → St → Prop} {i : Id} {o : Ob} {v : AV} : Res.go slot σ k (.wro i o v) = k v (σ.set i o) := (rfl)
@[simp ↓] theorem zrj {u : TypeId} : dops P N (⟨none, rc, ⟨dst, .call { callee := .builtin .clear, args := #[x], argTypes := #[u] }, ty, pos, aft, gd⟩⟩ :: rest) A σ K = OKr (zdK P σ.m u (zd A x)) (Res.go (dst.getD 0) σ fun v σ' => dops P N rest (zK N A dst v) σ' K) := (rfl)
@[simp ↓] theorem zrW {u : TypeId} : dops P N (⟨none, rc, ⟨dst, .call { callee := .builtin .copy, args := #[x, y], argTypes := #[u, t] }, ty, pos, aft, gd⟩⟩ :: rest) A σ K = OKr (zhj P σ.m u (zd A x) (zd A y)) (Res.go (dst.getD 0) σ fun v σ' => dops P N rest (zK N A dst v) σ' K) := (rfl)
@[simp ↓] theorem zp2 : dops P N (⟨none, rc, ⟨dst, .makeMap t none, ty, pos, aft, gd⟩⟩ :: rest) A σ K = dops P N rest (zK N A dst (.mp ⟨dst.getD 0, σ.nx (dst.getD 0), 0⟩)) (σ.new (dst.getD 0) 0 (.map [])) K := (rfl)
@[simp ↓] theorem zqQ {ok : Bool} : dops P N (⟨none, rc, ⟨dst, .lookup t x y ok, ty, pos, aft, gd⟩⟩ :: rest) A σ K = OKv (za2 P σ.m t (zd A x) (zd A y) ok) fun v => dops P N rest (zK N A dst v) σ K := zaP
@[simp ↓] theorem zoM {z : Operand} : dops P N (⟨none, rc, ⟨dst, .mapUpdate t x y z, ty, pos, aft, gd⟩⟩ :: rest) A σ K = OKr (zaT P σ.m t (zd A x) (zd A y) (zd A z)) (Res.go (dst.getD 0) σ fun v σ' => dops P N rest (zK N A dst v) σ' K) := (rfl)
def zgh (P : Program) (rc : Bool) (dst : Option Nat) (f : AV) (args : List AV) (σ : St) (k : AV → St → Prop) : Prop := match rc with | true => zgg P dst f args σ k | false => ze4 P f args σ k
@[congr] theorem zpo {tk : Prop} (hx : (True ∧ True) = tk) {b b' : Bool} {dst : Option Nat} {f f' : AV} {as as' : List AV} {K : AV → St → Prop} (h : f = f') (h2 : as = as') (h3 : b = b') : zgh P b dst f as σ K = zgh P b' dst f' as' σ K := by rw [h, h2, h3]
@[simp ↓] theorem zrX {args : Array Operand} {ts : Array TypeId} : dops P N (⟨none, rc, ⟨dst, .call { callee := .value x, args := args, argTypes := ts }, ty, pos, aft, gd⟩⟩ :: rest) A σ K = zgh P rc dst (zd A x) (args.toList.map (zd A)) σ fun v σ' => dops P N rest (zK N A dst v) σ' K := by cases rc <;> rfl
@[simp] theorem zrk {f : FuncId} {first caps args : List AV} {k : AV → St → Prop} : zgh P false dst (.fn (.func f) first caps) args σ k = ACalls P f (first ++ args ++ caps) σ k := (rfl)
@[simp] theorem zpp {b : Nat} {args : List AV} {k : AV → St → Prop} : zgh P false dst (.fn (.yield b) [] []) args σ k = YK P b args σ k := (rfl)
@[congr] theorem zrl {tk : Prop} (hx : (True ∧ True) = tk) {b : Nat} {as as' : List AV} {K : AV → St → Prop} (h2 : as = as') : YK P b as σ K = YK P b as' σ K := by rw [h2]
@[simp] theorem zqR {f : FuncId} {first caps args : List AV} {k : AV → St → Prop} : zgh P true dst (.fn (.func f) first caps) args σ k = ((∃ r, RCalls P σ.m f (first ++ args ++ caps) r ∧ k r σ) ∨ ∃ sz ob g slot, MCalls P f (first ++ args ++ caps) sz ob g ∧ dst = some slot ∧ k (g ⟨slot, σ.nx slot, sz⟩) (σ.new slot sz ob)) := (rfl)
@[simp] theorem zqS {d : Nat} {v : AV} : zK N A (some d) v = put N A d v := (rfl)
@[simp] theorem zqT {v : AV} : zK N A none v = A := (rfl)
@[simp] theorem zsv {d : Nat} {v : AV} (h : d < N) : put N A d v d = v := by simp [put, h]
@[simp] theorem zsw {d t : Nat} {v : AV} (h : t ≠ d) : put N A d v t = A t := by simp [put, h]
@[simp] theorem zqU {t : Nat} : zd A (.tmp t) = A t := (rfl)
@[simp] theorem zpq {v : Value} : zd A (.const v) = zC v := (rfl)
@[simp] theorem zp3 {f : FuncId} : zd A (.func f) = .fn (.func f) [] [] := (rfl)
@[simp] theorem zpr {k : IntKind} {n : Int} : zC (.int k n) = .raw (.int k n) := (rfl)
@[simp] theorem zoN {b : Bool} : zC (.bool b) = .raw (.bool b) := (rfl)
@[simp] theorem zn0 {b : ByteArray} : zC (.string b) = .raw (.string b) := (rfl)
@[simp] theorem znk : zC (.slice none 0 0) = .sl 0 [] true := (rfl)
@[simp] theorem znO {p : Option Addr} : zC (.pointer p) = .raw (.pointer p) := (rfl)
@[simp] theorem znP : zC .nilFunc = .raw .nilFunc := (rfl)
@[simp] theorem znl : zC .nilIface = .raw .nilIface := (rfl)
@[simp] theorem zps {p : Option Nat} : zC (.map p) = .raw (.map p) := (rfl)
@[simp] theorem zpt {cs : Array Value} : zC (.agg cs) = .agg (cs.toList.map z8) := (rfl)
@[simp] theorem zou {k : IntKind} {n : Int} : z8 (.int k n) = .raw (.int k n) := (rfl)
@[simp] theorem zn1 {b : Bool} : z8 (.bool b) = .raw (.bool b) := (rfl)
@[simp] theorem znm {b : ByteArray} : z8 (.string b) = .raw (.string b) := (rfl)
@[simp] theorem zmy : z8 (.slice none 0 0) = .sl 0 [] true := (rfl)
@[simp] theorem zm1 {p : Option Addr} : z8 (.pointer p) = .raw (.pointer p) := (rfl)
@[simp] theorem zm2 : z8 .nilFunc = .raw .nilFunc := (rfl)
@[simp] theorem zmz : z8 .nilIface = .raw .nilIface := (rfl)
@[simp] theorem zov {p : Option Nat} : z8 (.map p) = .raw (.map p) := (rfl)
@[simp] theorem zoO {a : AV} {l : List AV} : zbB (a :: l) 0 = a := (rfl)
@[simp] theorem zoP {a : AV} {l : List AV} {n : Nat} : zbB (a :: l) (n + 1) = zbB l n := by simp [zbB]
@[simp] theorem zpu {n : Nat} : zbB [] n = zS := (rfl)
@[simp] theorem zoQ {cs : List AV} : AV.cells (.agg cs) = cs := (rfl)
@[simp] theorem zpv {cs vs : List AV} {off : Nat} : setPart (.agg cs) off vs = .agg (cs.take off ++ vs ++ cs.drop (off + vs.length)) := (rfl)
@[simp] theorem zpw {v : Value} {vs : List AV} {off : Nat} : setPart (.raw v) off vs = zb9 (.raw v) vs := (rfl)
@[simp] theorem zp4 {z : Nat} {es : List AV} {b : Bool} {vs : List AV} {off : Nat} : setPart (.sl z es b) off vs = zb9 (.sl z es b) vs := (rfl)
@[simp] theorem zp5 {i : Id} {o n : Nat} {vs : List AV} {off : Nat} : setPart (.rs i o n) off vs = zb9 (.rs i o n) vs := (rfl)
@[simp] theorem zp6 {i : Id} {o n : Nat} {vs : List AV} {off : Nat} : setPart (.rp i o n) off vs = zb9 (.rp i o n) vs := (rfl)
@[simp] theorem zp7 {r : List AV} {o : Nat} {vs : List AV} {off : Nat} : setPart (.pp r o) off vs = zb9 (.pp r o) vs := (rfl)
@[simp] theorem zp8 {f : Fn} {a b vs : List AV} {off : Nat} : setPart (.fn f a b) off vs = zb9 (.fn f a b) vs := (rfl)
@[simp] theorem zp9 {i : Id} {vs : List AV} {off : Nat} : setPart (.mp i) off vs = zb9 (.mp i) vs := (rfl)
@[simp] theorem zpx {t : TypeId} {a : AV} {vs : List AV} {off : Nat} : setPart (.ifc t a) off vs = zb9 (.ifc t a) vs := (rfl)
@[simp] theorem zoR {v : Value} : AV.cells (.raw v) = [.raw v] := (rfl)
@[simp] theorem zpy {r : List AV} {o : Nat} : AV.cells (.pp r o) = [.pp r o] := (rfl)
@[simp] theorem zpz {i : Id} {k o : Nat} : AV.cells (.rp i k o) = [.rp i k o] := (rfl)
@[simp] theorem zpA {z : Nat} {es : List AV} {b : Bool} : AV.cells (.sl z es b) = [.sl z es b] := (rfl)
@[simp] theorem zpB {i : Id} {o n : Nat} : AV.cells (.rs i o n) = [.rs i o n] := (rfl)
@[simp] theorem zpC {f : Fn} {a b : List AV} : AV.cells (.fn f a b) = [.fn f a b] := (rfl)
@[simp] theorem zpD {i : Id} : AV.cells (.mp i) = [.mp i] := (rfl)
@[simp] theorem zoS {t : TypeId} {a : AV} : AV.cells (.ifc t a) = [.ifc t a] := (rfl)
@[simp] theorem zpE {k : IntKind} {n : Int} : (Value.int k n).oneCell' = true := (rfl)
@[simp] theorem zoT {b : Bool} : (Value.bool b).oneCell' = true := (rfl)
@[simp] theorem zn2 {b : ByteArray} : (Value.string b).oneCell' = true := (rfl)
@[simp] theorem znQ {b : Option Addr} : (Value.pointer b).oneCell' = true := (rfl)
@[simp] theorem znR : (Value.nilFunc).oneCell' = true := (rfl)
@[simp] theorem znn : (Value.nilIface).oneCell' = true := (rfl)
@[simp] theorem zpF {b : Option Nat} : (Value.map b).oneCell' = true := (rfl)
theorem zhJ {r : Option Nat} {K : Exit → zn → St → Prop} {c : Operand} {x y : Code} (h : zd A c = .raw (.bool true)) (hx : AWP P r N x K A σ) : AWP P r N (.cond c x y) K A σ := zgV (by rw [h, zhI]; exact ⟨fun _ => hx, fun e => Bool.noConfusion e⟩)
theorem zhK {r : Option Nat} {K : Exit → zn → St → Prop} {c : Operand} {x y : Code} (h : zd A c = .raw (.bool false)) (hy : AWP P r N y K A σ) : AWP P r N (.cond c x y) K A σ := zgV (by rw [h, zhI]; exact ⟨fun e => Bool.noConfusion e, fun _ => hy⟩)
def zfV (A : zn) : Option Oper → AV
  | some o => match o.dst with | some t => A t | none => zS
  | none => zS
theorem zoU {ops : List Oper} {o : Oper} {j : Nat} {b' : Bool} : dops P N (⟨some ((ops[j]?).bind (·.dst), b'), rc, o⟩ :: rest) A σ K = guarded (zfV A ops[j]?) b' (dops P N (⟨none, rc, o⟩ :: rest) A σ K) (dops P N rest (zK N A o.dst zS) σ K) := by
  cases ops[j]? with
  | none => rfl
  | some q => cases hq : q.dst with
    | none => simp only [Option.bind_some, hq, zfV]; rfl
    | some t => simp only [Option.bind_some, hq, zfV]; rfl
@[simp ↓] theorem zoV {ops : List Oper} {rcs : Oper → Bool} : dops P N (List.map (zbK ops rcs) []) A σ K = K A σ := (rfl)
@[simp ↓] theorem zow {ops l : List Oper} {rcs : Oper → Bool} {op : Op} : dops P N (List.map (zbK ops rcs) (⟨dst, op, ty, pos, aft, none⟩ :: l)) A σ K = dops P N (⟨none, rcs ⟨dst, op, ty, pos, aft, none⟩, ⟨dst, op, ty, pos, aft, none⟩⟩ :: List.map (zbK ops rcs) l) A σ K := (rfl)
@[simp ↓] theorem zn3 {ops l : List Oper} {rcs : Oper → Bool} {op : Op} {j : Nat} {b' : Bool} : dops P N (List.map (zbK ops rcs) (⟨dst, op, ty, pos, aft, some (j, b')⟩ :: l)) A σ K =
    guarded (zfV A ops[j]?) b' (dops P N (⟨none, rcs ⟨dst, op, ty, pos, aft, some (j, b')⟩, ⟨dst, op, ty, pos, aft, some (j, b')⟩⟩ :: List.map (zbK ops rcs) l) A σ K) (dops P N (List.map (zbK ops rcs) l) (zK N A dst zS) σ K) := zoU
@[simp] theorem zpG {o : Oper} : zfV A (some o) = match o.dst with | some t => A t | none => zS := (rfl)
theorem zw {r : Option Nat} {K : Exit → zn → St → Prop} {id : Nat} {ops : List Oper} (h : dops P N (ops.map (zbK ops fun _ => false)) A σ (K .normal)) : AWP P r N (.region id ops.toArray false) K A σ := by
  refine zlB ?_
  unfold zoA
  have key : ∀ (l : List Oper) A σ, dops P N (l.map (zbK ops fun _ => false)) A σ (K .normal) → zgW P N (l.map fun o => (zcc ops o, o)) A σ (K .normal) := by
    intro l
    induction l with
    | nil => intro A σ h; exact h
    | cons o l ih =>
      intro A σ h
      simp only [List.map_cons, dops, zgW] at h ⊢
      unfold zak at h
      exact zgA h (fun h => zfb (ziM (fun v σ h => ih _ _ h) h)) (ih _ _)
  exact key ops A σ h
theorem zc8 (m : zL) (a : AV) : zE m m a = a := by
  cases a <;> try rfl
  · rename_i i k off
    simp only [zE]
    cases m i <;> rfl
  · rename_i i k off
    simp only [zE]
    cases m i <;> rfl
theorem zd5 (m : zL) (a : AV) : zad m m a = a := by
  cases a <;> simp only [zad, zc8]
  · rename_i cs; congr 1; induction cs with
    | nil => rfl
    | cons a l ih => simp [zc8, ih]
  · rename_i cs; congr 1; induction cs with
    | nil => rfl
    | cons a l ih =>
      simp only [List.map_cons, ih]
      congr 1
      cases a <;> simp only [zc8]
      rename_i cs; congr 1; induction cs with
      | nil => rfl
      | cons a l ih => simp [zc8, ih]
attribute [simp] zdU zeS zeT zm3 zjp zdf zdS zcE zdR zeX zdW zdQ zeR zgQ zct zeD zeE zid zaF zck zeB zc4 zge zjj zaB zfC zgf zhd zeU zic zbc zjs zdg zca zhg zhh zfD zjV zfc zfU zgd zcW zbb zde zdJ zgc zeA zb9 zbz zcX zM zbT zer zdX zhi zcp zaq zeC zhe zN cellOK zaG zb2 zjM zs
theorem zI {fn : Func} {rv : AV} {e : Exit} (he : e = .normal ∨ e = .ret) (h : zaG P σ.m A fn.results = some rv) : zd3 P fn σ rv e A σ :=
  ⟨he, fun _ => Nat.le_refl _, fun _ _ => rfl, rv, h, by rw [zd5]; exact Weaker.refl _⟩
theorem zD {f : FuncId} {fn : Func} {c : Code} {args : List AV} {rv : AV} (hf : P.funcs[f]? = some fn) (hb : fn.body = some c) (hN : fn.ntmps = N) (hname : (fn.name == "runtime.NumGoroutine") = false) (hn : args.length ≤ N) (hr : noIds rv)
    (h : ∀ σ, AWP P none N c (zd3 P fn σ rv) (zbB args) σ) : PCalls P f args rv := by
  subst hN; exact zkM hf hb (zb3 hf hname hb) hn hr h
end
theorem zA {n : Int} (h : -9223372036854775808 ≤ n) (h2 : n < 9223372036854775808) : IntKind.i64.wrap n = n := by
  show (if (true && decide (n % 18446744073709551616 ≥ 9223372036854775808)) = true then n % 18446744073709551616 - 18446744073709551616 else n % 18446744073709551616) = n
  by_cases hc : n % 18446744073709551616 ≥ 9223372036854775808
  · rw [if_pos (by simpa using hc)]; omega
  · rw [if_neg (by simpa using hc)]; omega
theorem zcZ {n : Int} (h : 0 ≤ n) (h2 : n < 4294967296) : IntKind.u32.wrap n = n := by
  simp only [IntKind.wrap, IntKind.bits, IntKind.signed, Bool.false_and, Bool.false_eq_true, if_false]
  omega
theorem zlb {n : Int} (h : 0 ≤ n) (h2 : n < 18446744073709551616) : IntKind.u64.wrap n = n := by
  simp only [IntKind.wrap, IntKind.bits, IntKind.signed, Bool.false_and, Bool.false_eq_true, if_false]
  omega
theorem zsx {n : Int} (h : 0 ≤ n) (h2 : n < 256) : IntKind.u8.wrap n = n := by
  simp only [IntKind.wrap, IntKind.bits, IntKind.signed, Bool.false_and, Bool.false_eq_true, if_false]
  omega
end Go.Proofs.YtckabcbfbpejkaaGreatDoor.Av
namespace Go.Proofs.YtckabcbfbpejkaaGreatDoor.Av
open Go
set_option linter.unusedSimpArgs false
set_option linter.unusedVariables false
theorem SRelM.pushO {m : Id → Option Ob} {S : Ctx} (h : SRelM m S) {w' : World} {o : Obj} (hw : zcD S.w w' o) {i : Id} (hi : ¬ S.K i)
    {ob : Ob} (hob : OBRel (S.push w' i) i ob) : SRelM (fun j => if j = i then some ob else m j) (S.push w' i) where
  live := fun j o hj => by
    have k := Ev.push hw hi
    by_cases e : j = i
    · subst e
      simp only [if_true, Option.some.injEq] at hj
      subst hj
      have hmu : (S.push w' j).mu j = S.w.heap.size := by simp [Ctx.push]
      refine ⟨.inr rfl, ?_, .inr hmu, hob⟩
      rw [hmu]; show _ < w'.heap.size; rw [hw.1]; simp
    · simp only [e, if_false] at hj
      obtain ⟨h1, h2, h3, h4⟩ := h.live j o hj
      have hmu : (S.push w' i).mu j = S.mu j := by simp [Ctx.push, e]
      refine ⟨.inl h1, ?_, ?_, OBRel.mono k h1 (zaA hw.1 h2) h4⟩
      · rw [hmu]; exact Nat.lt_of_lt_of_le h2 k.size
      · rw [hmu]; exact .inl h3
  inj := fun j j' hj hj' he => by
    have old : ∀ j, j ≠ i → (if j = i then some ob else m j) ≠ none → S.mu j < S.w.heap.size := fun j e hj => by
      simp only [e, if_false] at hj
      obtain ⟨o, ho⟩ := Option.ne_none_iff_exists'.1 hj
      exact (h.live j o ho).2.1
    by_cases e : j = i
    · by_cases e' : j' = i
      · rw [e, e']
      · have := old j' e' hj'
        simp [Ctx.push, e, e'] at he
        omega
    · by_cases e' : j' = i
      · have := old j e hj
        simp [Ctx.push, e, e'] at he
        omega
      · simp [Ctx.push, e, e'] at he
        simp only [e, if_false] at hj
        simp only [e', if_false] at hj'
        exact h.inj j j' hj hj' he
section
variable {P : Program} {N : Nat} {A : zn} {σ : St}
def Ctx.lay (S : Ctx) (w' : World) : Ctx := { S with w := w', O := fun b => S.O b ∧ b < S.w.heap.size }
theorem zhL {S : Ctx} {w' : World} {o : Obj} (hw : zcD S.w w' o) : Ev S (S.lay w') where
  size := by show S.w.heap.size ≤ w'.heap.size; rw [hw.1]; simp
  heap := fun b hb _ => zaA hw.1 hb
  O := fun b _ h => h.1
  mu := fun j hj => ⟨rfl, hj⟩
  cells := fun b hb => zbQ (zaA hw.1 hb)
  lim := rfl
  io := hw.2
theorem zn4 {S : Ctx} (h : SRel σ S) {w' : World} {o : Obj} (hw : zcD S.w w' o) : SRel σ (S.lay w') :=
  ⟨h.kn, fun i o hi => by
    obtain ⟨h1, h2, h3, h4⟩ := h.live i o hi
    exact ⟨h1, Nat.lt_of_lt_of_le h2 (zhL hw).size, ⟨h3, h2⟩, OBRel.mono (zhL hw) h1 (zaA hw.1 h2) h4⟩, h.inj, h.gl.ev (zhL hw)⟩
theorem zjc {K : Exit → zn → St → Prop} {g : Operand} {ps : Array Tmp} {as bd : Code} {f : FuncId} {caps : List AV} (hg : zd A g = .fn (.func f) [] caps)
    (h : ∀ b, ACalls P f (.fn (.yield b) [] [] :: caps) (σ.new 0 0 (.loop b ps as bd N A .ready none)) fun _ σ' =>
      ∃ st pd, σ'.m ⟨0, σ.nx 0, 0⟩ = some (.loop b ps as bd N A st pd) ∧ st ≠ .busy ∧ (pd = none → K .normal A (σ'.del ⟨0, σ.nx 0, 0⟩)) ∧ (∀ c, pd = some c → AWP P none N c K A (σ'.del ⟨0, σ.nx 0, 0⟩))) :
    AWP P none N (.rangeFunc g ps as bd) K A σ := by
  intro S a hS hT
  refine wpIn_rangeFunc ?_
  intro fn hfn
  have hv := hT.eval g
  rw [hg] at hv
  simp only [VRel, LRel] at hv
  obtain ⟨l, m, hge, h1, h2⟩ := hv
  have hl : l = #[] := by simpa using h1
  subst hl
  let w1 := S.w.alloc (.deferred (some []))
  let rec0 : Loop := { state := .ready, pending := none, fn := fn, tmps := a.tmps, params := ps, assign := as, body := bd, defers := S.w.heap.size }
  let w2 := w1.alloc (.loop rec0)
  have hw1 : w1.heap = S.w.heap.push (.deferred (some [])) := rfl
  have hw2 : w2.heap = w1.heap.push (.loop rec0) := rfl
  have hsz1 : w1.heap.size = S.w.heap.size + 1 := by rw [hw1]; simp
  let i : Id := ⟨0, σ.nx 0, 0⟩
  let S1 := S.lay w1
  let S2 := S1.push w2 i
  have k1 : Ev S S1 := zhL ⟨hw1, rfl, rfl, rfl⟩
  have hS1 : SRel σ S1 := zn4 hS ⟨hw1, rfl, rfl, rfl⟩
  have hiK : ¬ S1.K i := fun hK => by have := hS1.kn i hK; simp [i] at this
  have k2 : Ev S1 S2 := Ev.push (S := S1) (w' := w2) (o := .loop rec0) ⟨hw2, rfl, rfl, rfl⟩ hiK
  have hT1 : TRel N S2 A a := (hT.mono k1).mono k2
  have hob : OBRel S2 i (.loop (S.w.heap.size + 1) ps as bd N A .ready none) := by
    refine ⟨?_, rec0, ?_, rfl, rfl, rfl, rfl, rfl, hT.size, hT1.val⟩
    · show (if i = i then S1.w.heap.size else _) = _
      rw [if_pos rfl]; exact hsz1
    · show w2.heap[_]? = _
      rw [hw2, ← hsz1]; simp
  have hS2 : SRel (σ.new 0 0 (.loop (S.w.heap.size + 1) ps as bd N A .ready none)) S2 := by
    refine SRelM.s (σ := σ.new 0 0 (.loop (S.w.heap.size + 1) ps as bd N A .ready none)) (SRelM.pushO (S := S1) (w' := w2) (o := .loop rec0) hS1.m ⟨hw2, rfl, rfl, rfl⟩ hiK hob) (hS1.gl.ev k2) fun j hj => ?_
    rcases hj with hj | rfl
    · exact Nat.lt_of_lt_of_le (hS1.kn j hj) (St.new_le _ _ _ _ _)
    · simp [St.new, i]
  have hD2 : S2.frozen S.w.heap.size := by
    refine k2.frozen ⟨?_, fun hO => ?_⟩
    · show S.w.heap.size < w1.heap.size; omega
    · exact absurd hO.2 (Nat.lt_irrefl _)
  have hDh : S2.w.heap[S.w.heap.size]? = some (.deferred (some [])) := by
    show w2.heap[_]? = _
    rw [zaA hw2 (by omega), hw1]; simp
  obtain ⟨hent, hcall⟩ := h (S.w.heap.size + 1)
  have hargs : LRel S2 (.fn (.yield (S.w.heap.size + 1)) [] [] :: caps) (.func (.yield (S.w.heap.size + 1)) #[] #[] :: m.toList) := by
    simp only [LRel]
    refine ⟨_, _, rfl, ?_, LRel.mono k2.sub _ _ (LRel.mono k1.sub _ _ h2)⟩
    simp [VRel, LRel]
  have hc := hcall S2 _ hS2 hargs
  refine ⟨S.w.heap.size + 1, [{ target := .collected S.w.heap.size, args := #[] }], w2, { target := .fn (.func f) m, args := #[.func (.yield (S.w.heap.size + 1)) #[] #[]] }, w2, f,
    #[.func (.yield (S.w.heap.size + 1)) #[] #[]] ++ m, w2, run_enterLoop_outer _ _ _ _ _, ?_, fun _ _ => trivial, ?_, fun h => by simp [Fw] at h, ?_⟩
  · simp only [resolve, hge]
    simp [go_sem]
  · simp only [invoke]; exact hent _ _
  · have e : (#[.func (.yield (S.w.heap.size + 1)) #[] #[]] ++ m : Array Value) = (Value.func (.yield (S.w.heap.size + 1)) #[] #[] :: m.toList).toArray := by
      apply Array.ext'; simp
    rw [e]
    refine hc.mono ?_
    rintro e w' ⟨S3, σ3, x, v, rfl, rfl, k3, hS3, hx, st, pd, hi3, hst, hK1, hK2⟩
    obtain ⟨r3, p1, p2, p3, p4, p5, p6, p7, p8, k4, hS4⟩ := ze5 hS3 hi3 .exhausted pd
    have he : ({ r3 with state := .exhausted } : Loop) = { r3 with state := .exhausted, pending := pd } := by rw [← p6]
    refine ⟨pd, _, by rw [run_endLoop p1 (by rw [p5]; exact hst), he, p6], ?_⟩
    have kall := ((k1.trans k2).trans k3).trans k4
    have hS5 : SRel (σ3.del i) (S3.at (S3.w.putObj (S.w.heap.size + 1) (.loop { r3 with state := .exhausted, pending := pd }))) := by
      refine SRelM.s (σ := σ3.del i) (hS4.m.less fun j o hj => ?_) hS4.gl hS4.kn
      by_cases e : j = i
      · simp [St.del, e] at hj
      · have hj : σ3.m j = some o := by simpa [St.del, e] using hj
        have e' : j ≠ (⟨0, σ.nx 0, 0⟩ : Id) := e
        simp [St.set, e', hj]
    have hT5 : TRel N (S3.at (S3.w.putObj (S.w.heap.size + 1) (.loop { r3 with state := .exhausted, pending := pd }))) A { a with defers := [{ target := .collected S.w.heap.size, args := #[] }] ++ a.defers } := by
      have hT4 := ((hT1.mono k3).mono k4)
      refine ⟨hT4.size, hT4.val, fun d hd => ?_, ?_, hT4.lim⟩
      · rcases List.mem_append.1 hd with hd | hd
        · simp only [List.mem_singleton] at hd
          refine ⟨_, hd, k4.frozen (k3.frozen hD2), ?_, ?_⟩
          · rw [kall.lim]; exact hT.lim
          · have q3 := k3.heap _ hD2.1 hD2.2
            have q4 := k4.heap _ (k3.frozen hD2).1 (k3.frozen hD2).2
            rw [q4, q3]; exact hDh
        · exact hT4.defers d hd
      · refine List.nodup_cons.2 ⟨fun hd => ?_, hT.nodup⟩
        obtain ⟨D, q1, q2, _⟩ := hT.defers _ hd
        simp only [Deferred.mk.injEq, Target.collected.injEq] at q1
        have := q2.1
        omega
    cases hpd : pd with
    | none =>
      refine ⟨_, A, σ3.del i, ?_, kall, hS5, hT5, hK1 hpd⟩
      rw [hpd]; rfl
    | some c =>
      have := AWP.after (hK2 c hpd) kall hS5 hT5
      rw [hpd] at this
      exact this
@[simp] theorem zjW {slot sz : Nat} {o : Ob} : (σ.new slot sz o).m ⟨slot, σ.nx slot, sz⟩ = some o := by simp [St.new]
theorem zeg {slot sz : Nat} {o : Ob} {i : Id} (h : i ≠ ⟨slot, σ.nx slot, sz⟩) : (σ.new slot sz o).m i = σ.m i := by simp [St.new, h]
@[simp] theorem zrY {slot sz : Nat} {o x : Ob} {i : Id} (h : σ.m i = some x) : (σ.new slot sz o).m i = some x := za6 i x h
@[simp] theorem zno {i : Id} {o : Ob} : (σ.set i o).m i = (σ.m i).map fun _ => o := by
  cases h : σ.m i <;> simp [St.set, h]
@[simp] theorem zQ {i j : Id} {o : Ob} (h : j ≠ i) : (σ.set i o).m j = σ.m j := by simp [St.set, h]
@[simp] theorem zsy {i : Id} {o : Ob} : (σ.set i o).nx = σ.nx := (rfl)
@[simp] theorem zsz {i : Id} : (σ.del i).nx = σ.nx := (rfl)
@[simp] theorem zW {i j : Id} (h : j ≠ i) : (σ.del i).m j = σ.m j := by simp [St.del, h]
@[simp] theorem zrm {i : Id} : (σ.del i).m i = none := by simp [St.del]
theorem St.ext' {σ τ : St} (h : σ.m = τ.m) (h2 : σ.nx = τ.nx) : σ = τ := by
  cases σ; cases τ; simp only at h h2; subst h h2; rfl
@[simp] theorem zrZ {slot sz : Nat} {o o' : Ob} : (σ.new slot sz o).set ⟨slot, σ.nx slot, sz⟩ o' = σ.new slot sz o' := by
  apply St.ext'
  · funext j
    by_cases h : j = ⟨slot, σ.nx slot, sz⟩
    · subst h; simp
    · rw [zQ h, zeg h, zeg h]
  · rfl
theorem zu (σ : St) (slot sz : Nat) : σ.m ⟨slot, σ.nx slot, sz⟩ = none := by
  cases h : σ.m ⟨slot, σ.nx slot, sz⟩ with
  | none => rfl
  | some o => have := σ.wf _ (by rw [h]; simp); simp at this
structure Ext (σ τ : St) : Prop where
  m : ∀ i o, σ.m i = some o → τ.m i = some o
  nx : ∀ s, σ.nx s ≤ τ.nx s
theorem Ext.refl (σ : St) : Ext σ σ := ⟨fun _ _ h => h, fun _ => Nat.le_refl _⟩
theorem Ext.trans {a b c : St} (h : Ext a b) (k : Ext b c) : Ext a c := ⟨fun i o hi => k.m i o (h.m i o hi), fun s => Nat.le_trans (h.nx s) (k.nx s)⟩
theorem Ext.new (σ : St) (slot sz : Nat) (o : Ob) : Ext σ (σ.new slot sz o) := ⟨za6, fun s => St.new_le _ _ _ _ _⟩
theorem zlJ {f : FuncId} {fn : Func} {c : Code} {args : List AV} {K : AV → St → Prop} (hf : P.funcs[f]? = some fn) (hb : fn.body = some c) (hN : fn.ntmps = N) (hname : (fn.name == "runtime.NumGoroutine") = false) (hn : args.length ≤ N)
    (h : AWP P none N c (zlD P fn K) (zbB args) σ) : ACalls P f args σ K := by
  subst hN; exact zgz hf hb (zb3 hf hname hb) hn h
theorem zeI {fn : Func} {K : AV → St → Prop} {e : Exit} (he : e = .normal ∨ e = .ret) {x : AV} (h : zaG P σ.m A fn.results = some x) (hK : K x σ) : zlD P fn K e A σ :=
  ⟨he, x, h, σ, fun _ _ h => h, fun _ => Nat.le_refl _, x, by rw [zd5]; exact Weaker.refl _, hK⟩
theorem ACalls.freeze {f : FuncId} {args : List AV} {K : AV → St → Prop} (i : Id) (h : ACalls P f (args.map (zE (σ.del i).m σ.m)) (σ.del i) K) : ACalls P f args σ K := by
  refine ⟨h.1, fun S vs hS hl => ?_⟩
  have hsub : ∀ j o, (σ.del i).m j = some o → σ.m j = some o := fun j o hj => by
    by_cases e : j = i
    · simp [e] at hj
    · rwa [zW e] at hj
  have k := zcY hS.m hsub
  have r := zgY hS.m hsub
  refine (h.2 (S.keep (σ.del i).m) vs (SRelM.s (σ := σ.del i) r (hS.gl.ev k) hS.kn) (zc7 hS.m hsub hl)).mono ?_
  rintro e w' ⟨S', σ', x, v, h1, h2, h3, h4, h5, h6⟩
  exact ⟨S', σ', x, v, h1, h2, k.trans h3, h4, h5, h6⟩
@[simp] theorem zqa {m m' : zL} {v : Value} : zE m' m (.raw v) = .raw v := (rfl)
@[simp] theorem zqV {m m' : zL} {sz : Nat} {es : List AV} {b : Bool} : zE m' m (.sl sz es b) = .sl sz es b := (rfl)
@[simp] theorem zqb {m m' : zL} {cs : List AV} : zE m' m (.agg cs) = .agg cs := (rfl)
@[simp] theorem zqW {m m' : zL} {f : Fn} {a b : List AV} : zE m' m (.fn f a b) = .fn f a b := (rfl)
@[simp] theorem zqX {m m' : zL} {r : List AV} {o : Nat} : zE m' m (.pp r o) = .pp r o := (rfl)
@[simp] theorem zfw {i : Id} {off len : Nat} {es : List AV} (h : σ.m i = some (.buf es)) (h2 : off + len ≤ es.length) : zE (σ.del i).m σ.m (.rs i off len) = .sl i.sz ((es.drop off).take len) false := by
  simp [zE, h, h2]
def AV.flat1 : AV → Bool
  | .rs _ _ _ | .rp _ _ _ => false
  | _ => true
def AV.flat : AV → Bool
  | .agg cs => cs.all AV.flat1
  | .tup vs => vs.all fun v => match v with | .agg cs => cs.all AV.flat1 | v => v.flat1
  | a => a.flat1
theorem zc9 {m m' : zL} {a : AV} (h : a.flat1 = true) : zE m' m a = a := by cases a <;> first | rfl | simp [AV.flat1] at h
theorem zg3 {m m' : zL} : ∀ {l : List AV}, l.all AV.flat1 = true → l.map (zE m' m) = l
  | [], _ => rfl
  | a :: l, h => by
    simp only [List.all_cons, Bool.and_eq_true] at h
    simp only [List.map_cons, zc9 h.1, zg3 h.2]
theorem zjX {m m' : zL} {a : AV} (h : a.flat = true) : zad m' m a = a := by
  cases a with
  | agg cs => simp only [zad, zg3 h]
  | tup vs =>
    simp only [zad]
    congr 1
    simp only [AV.flat] at h
    induction vs with
    | nil => rfl
    | cons v vs ih =>
      simp only [List.all_cons, Bool.and_eq_true] at h
      simp only [List.map_cons, ih h.2]
      congr 1
      cases v <;> first | exact zc9 h.1 | (simp only [zg3 h.1])
  | _ => simp only [AV.flat] at h; simp only [zad]; exact zc9 h
theorem zF {fn : Func} {σ0 : St} {rv : AV} {e : Exit} (he : e = .normal ∨ e = .ret) (hf : rv.flat = true) (hx : Ext σ0 σ) (h : zaG P σ.m A fn.results = some rv) : zd3 P fn σ0 rv e A σ :=
  ⟨he, hx.nx, fun i hi => by
    obtain ⟨o, ho⟩ := Option.ne_none_iff_exists'.1 hi
    rw [ho]; exact hx.m i o ho, rv, h, by rw [zjX hf]; exact Weaker.refl _⟩
@[simp] theorem zbL {τ : St} {slot sz : Nat} {o : Ob} (h : Ext σ τ) : Ext σ (τ.new slot sz o) := h.trans (Ext.new _ _ _ _)
attribute [simp] AV.flat AV.flat1 AV.ids zx Ext.refl
theorem zG {x : Option AV} {k : AV → Prop} (h : OKv x k) : OKv x k := h
theorem zH {x : Option Res} {k : Res → Prop} (h : OKr x k) : OKr x k := h
theorem zy {L : List DOp} {K : zn → St → Prop} (h : dops P N L A σ K) : dops P N L A σ K := h
theorem zkS {K : Exit → zn → St → Prop} {g : Operand} {ps : Array Tmp} {as bd : Code} {f : FuncId} {caps : List AV} (hg : zd A g = .fn (.func f) [] caps)
    (h : ∀ b lo L, lo = (fun st pd => Ob.loop b ps as bd N A st pd) → L = (⟨0, σ.nx 0, 0⟩ : Id) → ACalls P f (.fn (.yield b) [] [] :: caps) (σ.new 0 0 (lo .ready none)) fun _ σ' =>
      ∃ st pd, σ'.m L = some (lo st pd) ∧ st ≠ .busy ∧ (pd = none → K .normal A (σ'.del L)) ∧ (∀ c, pd = some c → AWP P none N c K A (σ'.del L))) :
    AWP P none N (.rangeFunc g ps as bd) K A σ := zjc hg fun b => h b _ _ rfl rfl
theorem YK.of {b : Nat} {ps : Array Tmp} {as bd : Code} {A0 : Nat → AV} {lo : LoopState → Option Code → Ob} {L : Id} {args : List AV} {K : AV → St → Prop} (hL : σ.m L = some (lo .ready none)) (hlo : lo = fun st pd => Ob.loop b ps as bd N A0 st pd) (hlen : args.length = ps.size)
    (h : AWP P (some b) N as (za8 (fun A2 σ2 => σ2.m L = some (lo .ready none) ∧ AWP P (some b) N bd (zfN L lo K) A2 (σ2.set L (lo .busy none))) (fun _ _ _ => False)) (params N ps.toList args A0) σ) : YK P b args σ K := by
  subst hlo
  exact ⟨L, ps, as, bd, N, A0, hL, hlen, h⟩
@[simp] theorem zqc {t : Nat} {x : AV} {n : Nat} : params n [t] [x] A = put n A t x := (rfl)
@[simp] theorem zqd {t u : Nat} {x y : AV} {n : Nat} : params n [t, u] [x, y] A = put n (put n A t x) u y := (rfl)
@[simp] theorem zox {L : Id} {lo : LoopState → Option Code → Ob} {K : AV → St → Prop} : zfN L lo K .normal A σ = (σ.m L = some (lo .busy none) ∧ K (.raw (.bool true)) (σ.set L (lo .ready none))) := (rfl)
@[simp] theorem zqe {L : Id} {lo : LoopState → Option Code → Ob} {K : AV → St → Prop} : zfN L lo K .ret A σ = (σ.m L = some (lo .busy none) ∧ K (.raw (.bool false)) (σ.set L (lo .done (some .ret)))) := (rfl)
@[simp] theorem zpH {L : Id} {lo : LoopState → Option Code → Ob} {K : AV → St → Prop} {id : Nat} : zfN L lo K (.exit id) A σ = (σ.m L = some (lo .busy none) ∧ K (.raw (.bool false)) (σ.set L (lo .done (some (.exit id))))) := (rfl)
theorem zrn {b : Nat} {ps : Array Tmp} {as bd : Code} {A0 : Nat → AV} {lo : LoopState → Option Code → Ob} (hlo : lo = fun st pd => Ob.loop b ps as bd N A0 st pd) (st : LoopState) (pd : Option Code) (es : List AV) : lo st pd ≠ .buf es := by subst hlo; simp
theorem zjd {r : Option Nat} {id : Nat} {c : Code} {K1 : zn → St → Prop} {K : Exit → zn → St → Prop} (R : zn → St → Prop) (h1 : AWP P r N c (za5 id (za8 R K)) A σ) (h2 : ∀ A σ, R A σ → K1 A σ) :
    AWP P r N c (za5 id (za8 K1 K)) A σ := h1.mono fun e A σ h => by
  cases e with
  | exit i =>
    simp only [za5] at h ⊢
    split
    · rename_i e; rw [if_pos e] at h; exact h2 _ _ h
    · rename_i e; rw [if_neg e] at h; exact h
  | normal => exact h2 _ _ h
  | _ => exact h
theorem zjY {r : Option Nat} {c : Code} {K1 : zn → St → Prop} {K : Exit → zn → St → Prop} (R : zn → St → Prop) (h1 : AWP P r N c (za8 R K) A σ) (h2 : ∀ A σ, R A σ → K1 A σ) :
    AWP P r N c (za8 K1 K) A σ := h1.mono fun e A σ h => by
  cases e with
  | normal => exact h2 _ _ h
  | _ => exact h
end
end Go.Proofs.YtckabcbfbpejkaaGreatDoor.Av
namespace Go.Proofs.YtckabcbfbpejkaaGreatDoor.Av
set_option linter.unusedSimpArgs false
set_option linter.unusedVariables false
open Go
section
variable {P : Program} {r : Option Nat} {N : Nat} {A : zn} {σ : St} {K : Exit → zn → St → Prop} {K1 : zn → St → Prop}
theorem zoy {c : Code} (R : zn → St → Prop) (h1 : ∀ R1 : zn → St → Prop, (∀ A σ, R A σ → R1 A σ) → AWP P r N c (za8 R1 K) A σ) (h2 : ∀ A σ, R A σ → K1 A σ) : AWP P r N c (za8 K1 K) A σ :=
  zjY R (h1 R fun _ _ h => h) h2
theorem zn5 {id : Nat} {c : Code} (R : zn → St → Prop) (h1 : ∀ R1 : zn → St → Prop, (∀ A σ, R A σ → R1 A σ) → AWP P r N c (za5 id (za8 R1 K)) A σ) (h2 : ∀ A σ, R A σ → K1 A σ) : AWP P r N c (za5 id (za8 K1 K)) A σ :=
  zjd R (h1 R fun _ _ h => h) h2
theorem z1 {c : Code} (I : Nat → zn → St → Prop) (n : Nat) (h0 : I n A σ)
    (round : ∀ n A σ, I n A σ → ∀ I1 : zn → St → Prop, (∀ n' A σ, n' < n → I n' A σ → I1 A σ) → AWP P r N c (za8 I1 K) A σ) : AWP P r N (.loop c) K A σ :=
  zjL I n h0 fun n A σ h => round n A σ h _ fun n' _ _ h1 h2 => ⟨n', h1, h2⟩
end
end Go.Proofs.YtckabcbfbpejkaaGreatDoor.Av
namespace Go.Proofs.YtckabcbfbpejkaaGreatDoor.Av
open Go
set_option linter.unusedSimpArgs false
set_option linter.unusedVariables false
section
variable {P : Program} {r : Option Nat} {N : Nat} {A : zn} {σ σ0 τ : St} {K : Exit → zn → St → Prop}
structure SlT (P : Program) (t : TypeId) (n b : Nat) : Prop where
  ex : ∃ e z, zaa P t = some e ∧ z6 P e = some n ∧ zag P e = some b ∧ z7 P e = some z ∧ (zC z).cells.length = n ∧ 0 < n ∧ 0 < b
def OwnL (σ0 τ : St) (n : Nat) (v : AV) (es : List AV) : Prop :=
  (es = [] ∧ v = .sl 0 [] true) ∨ ∃ j, v = .rs j 0 es.length ∧ j.sz = n ∧ τ.m j = some (.buf es) ∧ σ0.m j = none
theorem OwnL.nil {n : Nat} : OwnL σ0 τ n (.sl 0 [] true) [] := .inl ⟨rfl, rfl⟩
theorem OwnL.ext {n : Nat} {v : AV} {es : List AV} {ρ : St} (h : OwnL σ0 τ n v es) (k : Ext τ ρ) : OwnL σ0 ρ n v es := by
  rcases h with h | ⟨j, h1, h2, h3, h4⟩
  · exact .inl h
  · exact .inr ⟨j, h1, h2, k.m _ _ h3, h4⟩
theorem OwnL.of {n : Nat} {j : Id} {es : List AV} (h2 : j.sz = n) (h3 : τ.m j = some (.buf es)) (h4 : σ0.m j = none) {l : Nat} (hl : l = es.length) : OwnL σ0 τ n (.rs j 0 l) es := by subst hl; exact .inr ⟨j, rfl, h2, h3, h4⟩
theorem zar (hE : Ext σ0 τ) {slot n : Nat} : σ0.m ⟨slot, τ.nx slot, n⟩ = none := by
  cases h : σ0.m ⟨slot, τ.nx slot, n⟩ with
  | none => rfl
  | some o => have h1 := σ0.wf _ (by rw [h]; simp); have h2 := hE.nx slot; simp at h1; omega
theorem zbM {slot : Nat} {t : TypeId} {n by_ : Nat} {v x : AV} {es ys : List AV} {k : AV → St → Prop} (hT : SlT P t n by_) (hO : OwnL σ0 τ n v es) (hE : Ext σ0 τ)
    (hx : zbT τ.m x = some ys) (hxs : ys = [] ∨ zer x = n) (hc : zN (zs ys) = true) (hlen : (es.length + ys.length) * by_ ≤ 2 ^ 47)
    (hk : ∀ v' τ', OwnL σ0 τ' n v' (es ++ ys) → Ext σ0 τ' → (∀ i o, τ.m i = some o → (∀ a l, v ≠ .rs i a l) → τ'.m i = some o ∧ ∀ a l, v' ≠ .rs i a l) → (∀ s, τ.nx s ≤ τ'.nx s) → k v' τ') : OKr (zM P τ.m t v x) (Res.go slot τ k) := by
  obtain ⟨e, z, h1, h2, h3, h4, h5, h6, h7⟩ := hT.ex
  rcases hO with ⟨rfl, rfl⟩ | ⟨j, rfl, hj, hm, hn⟩
  · unfold zM
    simp only [h1, h2, h3, h4, hx]
    rw [if_pos ⟨hxs, h5, h6, h7, hc⟩]
    rw [if_pos ⟨by first | rfl | trivial, by simp, hlen⟩]
    by_cases hy : ys = []
    · subst hy
      simp only [if_true, zg2, zoK]
      exact hk _ _ (.inl ⟨rfl, rfl⟩) hE (fun i o h _ => ⟨h, by simp⟩) fun _ => Nat.le_refl _
    · rw [if_neg hy]
      simp only [zg2, zpT]
      refine hk _ _ (OwnL.of rfl (by simp) (zar hE) (by simp)) (hE.trans (Ext.new _ _ _ _)) (fun i o h _ => ⟨za6 _ _ h, ?_⟩) fun s => St.new_le _ _ _ _ _
      intro a l e
      injection e with e
      rw [← e, zu] at h; cases h
  · unfold zM
    simp only [h1, h2, h3, h4, hx, hm]
    rw [if_pos ⟨hxs, h5, h6, h7, hc⟩]
    rw [if_pos ⟨by first | rfl | trivial, by first | rfl | trivial, hj, hlen⟩]
    simp only [zg2, zpU, hj]
    have hd : ∀ i o, i ≠ j → τ.m i = some o → ((τ.del j).new slot n (.buf (es ++ ys))).m i = some o := fun i o hi h => za6 _ _ (by rw [zW hi]; exact h)
    refine hk _ _ (OwnL.of rfl (zjW (σ := τ.del j)) (zar hE) (by simp)) ⟨fun i o h => ?_, fun s => Nat.le_trans (hE.nx s) (St.new_le (τ.del j) _ _ _ _)⟩ (fun i o h hne => ⟨hd i o (fun e => hne 0 es.length (by rw [e])) h, ?_⟩) fun s => St.new_le (τ.del j) _ _ _ _
    · exact hd i o (fun e => by rw [e, hn] at h; cases h) (hE.m i o h)
    · intro a l e
      injection e with e
      rw [← e, zu] at h; cases h
theorem zbN {c : Code} (j : Id) (h : AWP P r N c K (fun t => zE (σ.del j).m σ.m (A t)) (σ.del j)) : AWP P r N c K A σ := by
  intro S a hS hT
  have hsub : ∀ i o, (σ.del j).m i = some o → σ.m i = some o := fun i o hi => by
    by_cases e : i = j
    · simp [e] at hi
    · rwa [zW e] at hi
  have k := zcY hS.m hsub
  have rr := zgY hS.m hsub
  have hT' := hT.mono k
  exact AWP.after (S' := S.keep (σ.del j).m) h k (SRelM.s (σ := σ.del j) rr (hS.gl.ev k) hS.kn) ⟨hT'.size, fun t => zdA hS.m hsub (hT.val t), hT'.defers, hT'.nodup, hT'.lim⟩
theorem znp {c : Code} {A' : zn} (hw : ∀ t, Weaker (A t) (A' t)) (h : AWP P r N c K A' σ) : AWP P r N c K A σ := fun S a hS hT =>
  h S a hS ⟨hT.size, fun t => hw t _ _ (hT.val t), hT.defers, hT.nodup, hT.lim⟩
theorem zcx {n : Nat} : Weaker (.sl 0 [] true) (.sl n [] false) := by
  intro S v h
  simp only [VRel] at h ⊢
  obtain ⟨base, cap, e, h1, h2, h3⟩ := h
  exact ⟨base, cap, e, h1, by simp, by simp⟩
theorem zpI {n : Nat} {es : List AV} : Weaker (.sl n es true) (.sl n es false) := by
  intro S v h
  simp only [VRel] at h ⊢
  obtain ⟨base, cap, e, h1, h2, h3⟩ := h
  exact ⟨base, cap, e, h1, by simp, h3⟩
@[simp] theorem zfW {i j : Id} {k off : Nat} (h : i ≠ j) : zE (σ.del j).m σ.m (.rp i k off) = .rp i k off := by
  simp only [zE, zW h]
  cases h2 : σ.m i <;> simp
@[simp] theorem zfX {i j : Id} {k off : Nat} (h : i ≠ j) : zE (σ.del j).m σ.m (.rs i k off) = .rs i k off := by
  simp only [zE, zW h]
  cases h2 : σ.m i <;> simp
theorem zlK {c : Code} (t : Nat) {n : Nat} {es : List AV} (hO : OwnL σ0 σ n (A t) es) (hE : Ext σ0 σ)
    (h : ∀ A' τ', Ext σ0 τ' → A' t = .sl n es false → (∀ u, u ≠ t → (A u).flat1 = true → A' u = A u) → (∀ u i k off, u ≠ t → A u = .rp i k off → A t ≠ .rs i 0 es.length → A' u = A u) → (∀ u i k off, u ≠ t → A u = .rs i k off → A t ≠ .rs i 0 es.length → A' u = A u) →
      (∀ i o, σ.m i = some o → A t ≠ .rs i 0 es.length → τ'.m i = some o) → (∀ s, σ.nx s ≤ τ'.nx s) → AWP P r N c K A' τ') : AWP P r N c K A σ := by
  rcases hO with ⟨rfl, hv⟩ | ⟨j, hv, hj, hm, hn⟩
  · refine znp (A' := fun u => if u = t then .sl n [] false else A u) (fun u => ?_) (h _ σ hE (by simp) (fun u hu _ => by simp [hu]) (fun u i k off hu _ _ => by simp [hu]) (fun u i k off hu _ _ => by simp [hu]) (fun i o h _ => h) fun _ => Nat.le_refl _)
    by_cases e : u = t
    · subst e; simp only [if_true]; rw [hv]; exact zcx
    · simp only [e, if_false]; exact Weaker.refl _
  · refine zbN j (h _ _ ⟨fun i o hi => ?_, hE.nx⟩ ?_ (fun u hu hf => zc9 hf) (fun u i k off hu hi hne => ?_) (fun u i k off hu hi hne => ?_) (fun i o hi hne => ?_) fun _ => Nat.le_refl _)
    · rw [zW (fun e => by rw [e, hn] at hi; cases hi)]; exact hE.m i o hi
    · show zE _ _ (A t) = _
      rw [hv, zfw hm (by simp), hj]; simp
    · show zE _ _ (A u) = _
      rw [hi]
      exact zfW (fun e => hne (by rw [e]; exact hv))
    · show zE _ _ (A u) = _
      rw [hi]
      exact zfX (fun e => hne (by rw [e]; exact hv))
    · rw [zW (fun e => hne (by rw [e]; exact hv))]; exact hi
theorem zro {fn : Func} {K : AV → St → Prop} {e : Exit} {n : Nat} {v : AV} {es : List AV} (he : e = .normal ∨ e = .ret) (h : zaG P σ.m A fn.results = some v) (hO : OwnL σ0 σ n v es) (hE : Ext σ0 σ)
    (hK : ∀ τ', Ext σ0 τ' → K (.sl n es false) τ') : zlD P fn K e A σ := by
  rcases hO with ⟨rfl, rfl⟩ | ⟨j, rfl, hj, hm, hn⟩
  · exact ⟨he, _, h, σ, fun _ _ h => h, fun _ => Nat.le_refl _, _, by rw [zd5]; exact zcx, hK _ hE⟩
  · have hsub : ∀ i o, (σ.del j).m i = some o → σ.m i = some o := fun i o hi => by
      by_cases e : i = j
      · simp [e] at hi
      · rwa [zW e] at hi
    refine ⟨he, _, h, σ.del j, hsub, fun _ => Nat.le_refl _, _, Weaker.refl _, ?_⟩
    have e1 : zad (σ.del j).m σ.m (.rs j 0 es.length) = .sl n es false := by
      simp only [zad]
      rw [zfw hm (by simp), hj]; simp
    rw [e1]
    refine hK _ ⟨fun i o hi => ?_, hE.nx⟩
    rw [zW (fun e => by rw [e, hn] at hi; cases hi)]; exact hE.m i o hi
theorem zfd {fn : Func} {e : Exit} {n : Nat} {v : AV} {es : List AV} (he : e = .normal ∨ e = .ret) (h : zaG P σ.m A fn.results = some v) (hO : OwnL σ0 σ n v es) (hE : Ext σ0 σ) : zd3 P fn σ0 (.sl n es false) e A σ := by
  have hm : ∀ i, σ0.m i ≠ none → σ.m i = σ0.m i := fun i hi => by
    obtain ⟨o, ho⟩ := Option.ne_none_iff_exists'.1 hi
    rw [ho]; exact hE.m i o ho
  rcases hO with ⟨rfl, rfl⟩ | ⟨j, rfl, hj, hmj, hn⟩
  · exact ⟨he, hE.nx, hm, _, h, zcx⟩
  · refine ⟨he, hE.nx, hm, _, h, ?_⟩
    have e1 : zad σ0.m σ.m (.rs j 0 es.length) = .sl n es false := by
      simp only [zad, zE, hn, hmj]
      rw [if_pos (by simp), hj]; simp
    rw [e1]; exact Weaker.refl _
end
end Go.Proofs.YtckabcbfbpejkaaGreatDoor.Av
namespace Go.Proofs.YtckabcbfbpejkaaGreatDoor.Av
open Go
set_option linter.unusedSimpArgs false
set_option linter.unusedVariables false
def zrp (P : Program) (f : FuncId) (caps : List AV) (i : Id) (c0 : Ob) (xs : List AV) : Prop :=
  ∀ (b : Nat) (I : Nat → St → Prop) (J : St → Prop),
    (∀ k σ τ, I k σ → Ext σ τ → I k τ) → (∀ k σ c, I k σ → σ.m i ≠ none → I k (σ.set i c)) →
    (∀ k x σ c, xs[k]? = some x → I k σ → σ.m i = some c → YK P b [x] σ fun r τ => (r = .raw (.bool true) ∧ I (k + 1) τ ∧ τ.m i = some c) ∨ (r = .raw (.bool false) ∧ J τ)) →
    ∀ σ, σ.m i = some c0 → I 0 σ → ACalls P f (.fn (.yield b) [] [] :: caps) σ fun _ τ => I xs.length τ ∨ J τ
section
variable {P : Program} {N : Nat} {A : zn} {σ σ0 τ : St} {K : Exit → zn → St → Prop}
structure Gath (σ0 : St) (w L i : Id) (n : Nat) (lo1 : Ob) (es : List AV) (τ : St) : Prop where
  ext : Ext σ0 τ
  lp : τ.m L = some lo1
  own : ∃ v, τ.m w = some (.buf [v]) ∧ OwnL σ0 τ n v es ∧ (∀ a l, v ≠ .rs w a l) ∧ (∀ a l, v ≠ .rs L a l) ∧ ∀ a l, v ≠ .rs i a l
theorem Gath.up {w L i : Id} {n : Nat} {lo1 : Ob} {es : List AV} {ρ : St} (h : Gath σ0 w L i n lo1 es τ) (k : Ext τ ρ) : Gath σ0 w L i n lo1 es ρ := by
  obtain ⟨v, h1, h2, h3⟩ := h.own
  exact ⟨h.ext.trans k, k.m _ _ h.lp, v, k.m _ _ h1, h2.ext k, h3⟩
theorem Gath.setI {w L i : Id} {n : Nat} {lo1 c : Ob} {es : List AV} (h : Gath σ0 w L i n lo1 es τ) (hi0 : σ0.m i = none) (hiw : w ≠ i) (hiL : L ≠ i) : Gath σ0 w L i n lo1 es (τ.set i c) := by
  obtain ⟨v, h1, h2, h3, h4, h5⟩ := h.own
  refine ⟨⟨fun l o ho => ?_, h.ext.nx⟩, by rw [zQ hiL]; exact h.lp, v, by rw [zQ hiw]; exact h1, ?_, h3, h4, h5⟩
  · rw [zQ (fun e => by rw [e, hi0] at ho; cases ho)]; exact h.ext.m l o ho
  · rcases h2 with h2 | ⟨j, e, q1, q2, q3⟩
    · exact .inl h2
    · exact .inr ⟨j, e, q1, by rw [zQ (fun e2 => h5 0 es.length (by rw [e, e2]))]; exact q2, q3⟩
theorem Gath.fin {w L i : Id} {n : Nat} {lo1 lo2 c x : Ob} {es : List AV} {v : AV} (hE : Ext σ0 τ) (hL : τ.m L = some lo1) (hw : τ.m w = some x) (hi : τ.m i = some c) (hO : OwnL σ0 τ n v es) (h3 : (∀ a l, v ≠ .rs w a l) ∧ (∀ a l, v ≠ .rs L a l) ∧ ∀ a l, v ≠ .rs i a l)
    (hw0 : σ0.m w = none) (hL0 : σ0.m L = none) (hwL : w ≠ L) (hwi : w ≠ i) (hLi : L ≠ i) :
    (τ.set w (.buf [v])).m L = some lo1 ∧ Gath σ0 w L i n lo2 es ((τ.set w (.buf [v])).set L lo2) ∧ ((τ.set w (.buf [v])).set L lo2).m i = some c := by
  have e1 : (τ.set w (.buf [v])).m L = some lo1 := by rw [zQ (Ne.symm hwL)]; exact hL
  refine ⟨e1, ⟨⟨fun l o ho => ?_, hE.nx⟩, by simp [e1], v, ?_, ?_, h3⟩, ?_⟩
  · rw [zQ (fun e => by rw [e, hL0] at ho; cases ho), zQ (fun e => by rw [e, hw0] at ho; cases ho)]; exact hE.m l o ho
  · rw [zQ hwL]; simp [hw]
  · rcases hO with h2 | ⟨j, e, q1, q2, q3⟩
    · exact .inl h2
    · exact .inr ⟨j, e, q1, by rw [zQ (fun e2 => h3.2.1 0 es.length (by rw [e, e2])), zQ (fun e2 => h3.1 0 es.length (by rw [e, e2]))]; exact q2, q3⟩
  · rw [zQ (Ne.symm hLi), zQ (Ne.symm hwi)]; exact hi
theorem zqf {g : Operand} {ps : Array Tmp} {as_ bd : Code} {f : FuncId} {caps : List AV} {i w : Id} {c0 : Ob} {xs es0 : List AV} {n : Nat} {v0 : AV} (hg : zd A g = .fn (.func f) [] caps) (hit : zrp P f caps i c0 xs)
    (hE : Ext σ0 σ) (hi : σ.m i = some c0) (hi0 : σ0.m i = none) (hw : σ.m w = some (.buf [v0])) (hw0 : σ0.m w = none) (hwi : w ≠ i) (hO : OwnL σ0 σ n v0 es0) (hv : (∀ a l, v0 ≠ .rs w a l) ∧ ∀ a l, v0 ≠ .rs i a l)
    (body : ∀ b lo L k x τ c, lo = (fun st pd => Ob.loop b ps as_ bd N A st pd) → σ0.m L = none → L ≠ i → w ≠ L → xs[k]? = some x → Gath σ0 w L i n (lo .ready none) (es0 ++ xs.take k) τ → τ.m i = some c →
      YK P b [x] τ fun r τ' => r = .raw (.bool true) ∧ Gath σ0 w L i n (lo .ready none) (es0 ++ xs.take k ++ [x]) τ' ∧ τ'.m i = some c)
    (fin : ∀ τ', Ext σ0 τ' → (∃ v, τ'.m w = some (.buf [v]) ∧ OwnL σ0 τ' n v (es0 ++ xs)) → K .normal A τ') : AWP P none N (.rangeFunc g ps as_ bd) K A σ := by
  refine zkS hg fun b lo L hlo hL => ?_
  have hLf : σ.m L = none := by rw [hL]; exact zu _ _ _
  have hL0 : σ0.m L = none := by rw [hL]; exact zar hE
  have hLi : L ≠ i := fun e => by rw [← e, hLf] at hi; cases hi
  have hwL : w ≠ L := fun e => by rw [e, hLf] at hw; cases hw
  have hσL : (σ.new 0 0 (lo .ready none)).m L = some (lo .ready none) := by rw [hL]; simp
  have hE2 : Ext σ (σ.new 0 0 (lo .ready none)) := Ext.new _ _ _ _
  have hv0L : ∀ a l, v0 ≠ .rs L a l := fun a l e => by
    rcases hO with ⟨_, e2⟩ | ⟨j, e2, _, h3, _⟩
    · rw [e] at e2; cases e2
    · rw [e] at e2; injection e2 with e2; rw [← e2, hLf] at h3; cases h3
  have h0 : Gath σ0 w L i n (lo .ready none) (es0 ++ xs.take 0) (σ.new 0 0 (lo .ready none)) :=
    ⟨hE.trans hE2, hσL, v0, hE2.m _ _ hw, by rw [List.take_zero, List.append_nil]; exact hO.ext hE2, hv.1, hv0L, hv.2⟩
  refine (hit b (fun k τ => Gath σ0 w L i n (lo .ready none) (es0 ++ xs.take k) τ) (fun _ => False) (fun k a b h1 h2 => h1.up h2) (fun k a c h1 _ => h1.setI hi0 hwi hLi) ?_ _ (hE2.m _ _ hi) h0).mono ?_
  · intro k x τ c hx hG hc
    refine YK.mono ?_ (body b lo L k x τ c hlo hL0 hLi hwL hx hG hc)
    rintro _ τ' ⟨rfl, q1, q2⟩
    refine .inl ⟨rfl, ?_, q2⟩
    rw [List.take_add_one, hx]
    simpa using q1
  · rintro _ τ (hG | h)
    · refine ⟨_, _, hG.lp, by simp, fun _ => ?_, fun c h => by cases h⟩
      obtain ⟨v, q1, q2, q3, q4, q5⟩ := hG.own
      refine fin _ ⟨fun l o ho => ?_, hG.ext.nx⟩ ⟨v, by rw [zW hwL]; exact q1, ?_⟩
      · rw [zW (fun e => by rw [e, hL0] at ho; cases ho)]; exact hG.ext.m l o ho
      · rw [List.take_length] at q2
        rcases q2 with q2 | ⟨j, e, p1, p2, p3⟩
        · exact .inl q2
        · exact .inr ⟨j, e, p1, by rw [zW (fun e2 => q4 0 (es0 ++ xs).length (by rw [e, e2]))]; exact p2, p3⟩
    · exact h.elim
end
end Go.Proofs.YtckabcbfbpejkaaGreatDoor.Av
namespace Go.Proofs.YtckabcbfbpejkaaGreatDoor.Av
set_option linter.unusedSimpArgs false
set_option linter.unusedVariables false
open Go
section
variable {P : Program} {N : Nat} {A : zn} {σ σ0 τ : St} {K : Exit → zn → St → Prop}
theorem OwnL.cells {n : Nat} {v : AV} {es : List AV} (h : OwnL σ0 τ n v es) : v.cells = [v] := by
  rcases h with ⟨_, rfl⟩ | ⟨j, rfl, _⟩ <;> rfl
theorem OwnL.cellOK {n : Nat} {v : AV} {es : List AV} (h : OwnL σ0 τ n v es) : Av.cellOK v = true := by
  rcases h with ⟨_, rfl⟩ | ⟨j, rfl, _⟩ <;> rfl
theorem OwnL.setPart {n : Nat} {v x : AV} {es : List AV} (h : OwnL σ0 τ n v es) : Av.setPart v 0 [x] = x := by
  rcases h with ⟨_, rfl⟩ | ⟨j, rfl, _⟩ <;> rfl
theorem Gath.start {w L i : Id} {n slot sz : Nat} {lo1 lo2 c x : Ob} {es : List AV} (h : Gath σ0 w L i n lo1 es τ) (hc : τ.m i = some c) (hL0 : σ0.m L = none) (hwL : w ≠ L) (hLi : L ≠ i) :
    ((τ.new slot sz x).set L lo2).m ⟨slot, τ.nx slot, sz⟩ = some x ∧ ((τ.new slot sz x).set L lo2).m L = some lo2 ∧ ((τ.new slot sz x).set L lo2).m i = some c ∧ Ext σ0 ((τ.new slot sz x).set L lo2) ∧
      ∃ v, ((τ.new slot sz x).set L lo2).m w = some (.buf [v]) ∧ OwnL σ0 ((τ.new slot sz x).set L lo2) n v es ∧ (∀ a l, v ≠ .rs w a l) ∧ (∀ a l, v ≠ .rs L a l) ∧ ∀ a l, v ≠ .rs i a l := by
  obtain ⟨hE, hl, v, h1, h2, h3⟩ := h
  have hn : ∀ j o, τ.m j = some o → (τ.new slot sz x).m j = some o := fun j o => za6 _ _
  have hne : (⟨slot, τ.nx slot, sz⟩ : Id) ≠ L := fun e => by have := zu τ slot sz; rw [e, hl] at this; cases this
  have hL1 := hn _ _ hl
  refine ⟨by rw [zQ hne]; simp, by simp [hL1], by rw [zQ (Ne.symm hLi)]; exact hn _ _ hc, ⟨fun j o ho => ?_, fun s => Nat.le_trans (hE.nx s) (St.new_le τ slot sz x s)⟩, v, by rw [zQ hwL]; exact hn _ _ h1, ?_, h3⟩
  · rw [zQ (fun e => by rw [e, hL0] at ho; cases ho)]; exact hn _ _ (hE.m j o ho)
  · rcases h2 with h2 | ⟨j, e, q1, q2, q3⟩
    · exact .inl h2
    · exact .inr ⟨j, e, q1, by rw [zQ (fun e2 => h3.2.1 0 es.length (by rw [e, e2]))]; exact hn _ _ q2, q3⟩
end
end Go.Proofs.YtckabcbfbpejkaaGreatDoor.Av
namespace Go.Proofs.YtckabcbfbpejkaaGreatDoor.Av
open Go
set_option linter.unusedSimpArgs false
set_option linter.unusedVariables false
section
variable {P : Program} {N : Nat} {r : Option Nat}
theorem zjZ {ops : List Oper} {rc : Oper → Bool} {Q : Exit → Act → World → Prop} (hed : zdj ops = true) (J : List Nat → zn → St → Prop)
    (pick : ∀ L i A σ, L.Nodup → i ∈ L → i < ops.length → (∀ j, ((zaz ops).getD i 0).testBit j = true → j ∉ L) → J L A σ → zbq (zZ ops rc i) A σ → zak P (zZ ops rc i) A σ fun v σ' => J (L.erase i) (zK N A (zZ ops rc i).o.dst v) σ') :
    ∀ (fuel : Nat) (L : List Nat) (listed : Array Bool) {A : zn} {σ : St} {S : Ctx} {a : Act}, listed.size = ops.length → zjT ops listed → (∀ i, i ∈ L ↔ i < ops.length ∧ listed.getD i true = false) → L.Nodup → L.length ≤ fuel →
      J L A σ → SRel σ S → TRel N S A a →
      (∀ S' σ' A' a', Ev S S' → SRel σ' S' → TRel N S' A' a' → J [] A' σ' → Q .normal a' S'.w) → wpAnyIn (Fw r) 0 P .any ops.toArray Q fuel listed a S.w := by
  intro fuel
  have hdone : ∀ (L : List Nat) (listed : Array Bool), listed.size = ops.length → (∀ i, i ∈ L ↔ i < ops.length ∧ listed.getD i true = false) → Region.ready .any ops.toArray listed = [] → L = [] := by
    intro L listed hsz hL hr
    apply Classical.byContradiction
    intro hne
    have hex : ∃ i, i < ops.length ∧ listed.getD i true = false := by
      obtain ⟨x, hx⟩ := List.exists_mem_of_ne_nil L hne
      exact ⟨x, (hL x).1 hx⟩
    obtain ⟨i, ⟨h1, h2⟩, h3⟩ := least hex
    have : i ∈ Region.ready .any ops.toArray listed := by
      unfold Region.ready
      rw [List.mem_filter]
      refine ⟨by simpa using h1, ?_⟩
      have ho : ops[i]? = some ops[i] := List.getElem?_eq_getElem h1
      simp only [h2, List.getElem?_toArray, ho, Option.map_some, Option.getD_some, Bool.not_false, Bool.true_and]
      rw [Array.all_eq_true_iff_forall_mem]
      intro e he
      simp only [Bool.or_eq_true, Bool.not_eq_true']
      by_cases hb : Region.binds .any e = true
      · right
        have hd := List.all_eq_true.1 hed (ops[i], i) (by rw [List.mem_zipIdx_iff_getElem?]; exact ho)
        have hd2 := List.all_eq_true.1 hd e (by simpa using he)
        simp only [hb, Bool.not_true, Bool.false_or, decide_eq_true_eq] at hd2
        by_cases hx : listed.getD e.on true = false
        · have := h3 e.on ⟨by omega, hx⟩; omega
        · have hlt : e.on < listed.size := by omega
          simpa [Array.getD, hlt] using hx
      · left; simpa using hb
    rw [hr] at this
    simp at this
  induction fuel with
  | zero =>
    intro L listed A σ S a hsz hcl hL hnd hf h hS hT hQ
    have : L = [] := List.length_eq_zero_iff.1 (by omega)
    subst this
    refine ⟨?_, hQ S σ A a (Ev.refl S) hS hT h⟩
    unfold Region.ready
    rw [List.filter_eq_nil_iff]
    intro i hi
    have := (hL i).2
    simp at this hi
    simp [this hi]
  | succ fuel ih =>
    intro L listed A σ S a hsz hcl hL hnd hf h hS hT hQ
    refine ⟨fun hr => ?_, fun i hi => ?_⟩
    · have := hdone L listed hsz hL hr
      subst this
      exact hQ S σ A a (Ev.refl S) hS hT h
    · unfold Region.ready at hi
      rw [List.mem_filter] at hi
      obtain ⟨hi1, hi2⟩ := hi
      have hi1 : i < ops.length := by simpa using hi1
      have ho : ops[i]? = some ops[i] := List.getElem?_eq_getElem hi1
      simp only [List.getElem?_toArray, ho, Option.map_some, Option.getD_some, Bool.and_eq_true, Bool.not_eq_true'] at hi2
      obtain ⟨hnl, hall⟩ := hi2
      have hready : zih listed ops[i] := fun e he hb => by
        rw [Array.all_eq_true_iff_forall_mem] at hall
        have := hall e (by simpa using he)
        simpa [hb] using this
      have hiL : i ∈ L := (hL i).2 ⟨hi1, hnl⟩
      have hd : zZ ops rc i = ⟨zcc ops ops[i], rc ops[i], ops[i]⟩ := by simp [zZ, ho]
      have hanc : ∀ j, ((zaz ops).getD i 0).testBit j = true → j ∉ L := by
        intro j hb hj
        have hlj : listed.getD j false = true := zhH hcl ops.length i ops[i] j (Nat.le_refl _) hi1 ho hready (by rw [List.take_length]; exact hb)
        have := (hL j).1 hj
        have hlt : j < listed.size := by omega
        have h1 := this.2
        simp [Array.getD, hlt] at h1 hlj
        rw [h1] at hlj; cases hlj
      have hb := pick L i A σ hnd hiL hi1 hanc h (zjU hS hT)
      rw [hd] at hb
      have hget : ∀ k b, (listed.setIfInBounds i true).getD k b = if k = i then true else listed.getD k b := fun k b => by
        by_cases hk : k = i
        · subst hk; simp [Array.getD, hsz, hi1]
        · simp only [Array.getD, Array.size_setIfInBounds, hk, if_false]
          split
          · rename_i hlt
            simp only [Array.getInternal_eq_getElem]
            exact Array.getElem_setIfInBounds_ne (by simpa using hlt) (fun x => hk x.symm)
          · rfl
      have next : ∀ S' σ' A' a', Ev S S' → SRel σ' S' → TRel N S' A' a' → J (L.erase i) A' σ' → wpAnyIn (Fw r) 0 P .any ops.toArray Q fuel (listed.setIfInBounds i true) a' S'.w := by
        intro S' σ' A' a' k1 k2 k3 k4
        refine ih (L.erase i) _ (by simpa using hsz) ?_ (fun x => ?_) (hnd.erase i) (by have := List.length_erase_of_mem hiL; have := List.length_pos_of_mem hiL; omega) k4 k2 k3 fun S2 σ2 A2 a2 q1 q2 q3 q4 => hQ S2 σ2 A2 a2 (k1.trans q1) q2 q3 q4
        · intro k o hk hl e he hbi
          rw [hget]
          split
          · rfl
          · rw [hget] at hl
            split at hl
            · rename_i e1; subst e1
              rw [ho] at hk
              injection hk with hk
              subst hk
              exact hready e he hbi
            · exact hcl k o hk hl e he hbi
        · rw [hget, List.Nodup.mem_erase_iff hnd]
          by_cases hx : x = i
          · subst hx; simp
          · rw [if_neg hx, ← hL x]
            simp [hx]
      unfold wpOpIn
      simp only [List.getElem?_toArray, ho]
      unfold zak at hb
      rcases ze6 hb hT with ⟨hw, hb⟩ | ⟨hw, hb⟩
      · rw [if_pos hw]
        exact zfO (zfb (K := fun A' σ' => J (L.erase i) A' σ') hb) hS hT next
      · rw [if_neg (by simp [hw])]
        exact ⟨zcd, next S σ _ _ (Ev.refl S) hS (hT.put (r := zS) (v := undef) ops[i].dst (by simp [zS, VRel])) hb⟩
theorem zbU {K : zn → St → Prop} : ∀ (l m : List DOp) {A : zn} {σ : St}, dops P N (l ++ m) A σ K ↔ dops P N l A σ fun A' σ' => dops P N m A' σ' K
  | [], m, A, σ => Iff.rfl
  | d :: l, m, A, σ => by
    simp only [List.cons_append, dops]
    constructor
    · exact zX fun v σ' h => (zbU l m).1 h
    · exact zX fun v σ' h => (zbU l m).2 h
theorem zdk {K K' : zn → St → Prop} (hk : ∀ A σ, K A σ → K' A σ) : ∀ (l : List DOp) {A : zn} {σ : St}, dops P N l A σ K → dops P N l A σ K'
  | [], A, σ, h => hk _ _ h
  | d :: l, A, σ, h => zX (fun v σ' h => zdk hk l h) h
theorem zcf {ops : List Oper} {rc : Oper → Bool} {K : zn → St → Prop} {L1 L2 : List Nat} {i : Nat} {A : zn} {σ : St} (hp : zaj ops rc (zaz ops) (L1 ++ [i]) = true) (hanc : ∀ j ∈ L1, ((zaz ops).getD i 0).testBit j = false) (hl : zbq (zZ ops rc i) A σ)
    (h : dops P N ((L1 ++ i :: L2).map (zZ ops rc)) A σ K) : zak P (zZ ops rc i) A σ fun v σ' => dops P N ((L1 ++ L2).map (zZ ops rc)) (zK N A (zZ ops rc i).o.dst v) σ' K := by
  rw [List.map_append, List.map_cons] at h
  have := zfS (L1.map (zZ ops rc)) (fun x hx => by
    obtain ⟨j, hj, rfl⟩ := List.mem_map.1 hx
    obtain ⟨l1, l2, rfl⟩ := List.append_of_mem hj
    rcases zew hp l1 j l2 i [] (by simp) with hb | hb
    · rw [hanc j (by simp)] at hb; cases hb
    · exact hb) (.inr hl) h
  rw [List.map_append]
  exact this
def zgi (ops : List Oper) (rc : Oper → Bool) (n : Nat) : Bool :=
  zdj ops && zaj ops rc (zaz ops) (List.range n ++ [n]) && zaj ops rc (zaz ops) (List.range n ++ [n + 1]) && decide (ops.length = n + 2)
theorem zmA {K : Exit → zn → St → Prop} {A : zn} {σ : St} {id : Nat} {ops : List Oper} (n : Nat) (rc : Oper → Bool) (hm : P.follows .mixedOrders = true) (hc : zgi ops rc n = true)
    (h : dops P N ((List.range n).map (zZ ops rc)) A σ fun A' σ' => dops P N [zZ ops rc n, zZ ops rc (n + 1)] A' σ' (K .normal) ∧ dops P N [zZ ops rc (n + 1), zZ ops rc n] A' σ' (K .normal)) :
    AWP P r N (.region id ops.toArray true) K A σ := by
  intro S a hS hT
  simp only [zgi, Bool.and_eq_true, decide_eq_true_eq] at hc
  obtain ⟨⟨⟨h1, h2⟩, h3⟩, h4⟩ := hc
  refine wpIn_region_any hm ?_
  have hk := zg1 S
  let S1 : Ctx := { S with w := { S.w with drawn := S.w.drawn + 1 } }
  have hS1 : SRel σ S1 := ⟨hS.kn, fun i o hi => by
    obtain ⟨g1, g2, g3, g4⟩ := hS.live i o hi
    exact ⟨g1, g2, g3, OBRel.mono hk g1 rfl g4⟩, hS.inj, hS.gl.ev hk⟩
  let J : List Nat → zn → St → Prop := fun L A σ => (zaj ops rc (zaz ops) L = true ∧ dops P N (L.map (zZ ops rc)) A σ (K .normal)) ∨
    ∃ L', L = L' ++ [n, n + 1] ∧ zaj ops rc (zaz ops) (L' ++ [n]) = true ∧ zaj ops rc (zaz ops) (L' ++ [n + 1]) = true ∧
      dops P N (L'.map (zZ ops rc)) A σ fun A' σ' => dops P N [zZ ops rc n, zZ ops rc (n + 1)] A' σ' (K .normal) ∧ dops P N [zZ ops rc (n + 1), zZ ops rc n] A' σ' (K .normal)
  have key := zjZ (P := P) (N := N) (r := r) (ops := ops) (rc := rc) (Q := zie N S K) h1 J ?_ ops.length (List.range n ++ [n, n + 1]) (Array.replicate ops.length false) (A := A) (σ := σ) (S := S1) (a := a) (by simp) ?_ ?_ ?_ (by simp [h4]) (.inr ⟨_, rfl, h2, h3, h⟩) hS1 (hT.mono hk) ?_
  · have e : ops.toArray.size = ops.length := by simp
    rw [e]; exact key
  · intro L i A σ hnd hi hlt hanc hJ hl
    have front : ∀ (L1 L2 : List Nat) (K' : zn → St → Prop), L = L1 ++ i :: L2 → zaj ops rc (zaz ops) (L1 ++ [i]) = true → dops P N ((L1 ++ i :: L2).map (zZ ops rc)) A σ K' →
        zak P (zZ ops rc i) A σ fun v σ' => dops P N ((L1 ++ L2).map (zZ ops rc)) (zK N A (zZ ops rc i).o.dst v) σ' K' := fun L1 L2 K' e hp hd =>
      zcf hp (fun j hj => by
        cases hb : ((zaz ops).getD i 0).testBit j with
        | false => rfl
        | true => exact absurd (by rw [e]; simp [hj]) (hanc j hb)) hl hd
    rcases hJ with ⟨hp, hd⟩ | ⟨L', rfl, hp1, hp2, hd⟩
    · obtain ⟨L1, L2, rfl⟩ := List.append_of_mem hi
      have hn : i ∉ L1 := fun hx => by
        rw [List.nodup_append] at hnd
        exact hnd.2.2 i hx i (by simp) rfl
      rw [show (L1 ++ i :: L2).erase i = L1 ++ L2 by rw [List.erase_append_right _ hn, List.erase_cons_head]]
      exact zX (fun v σ' q => .inl ⟨zan (by simp) hp, q⟩) (front L1 L2 _ rfl (zan (by simp) hp) hd)
    · have hn : n ∉ L' := fun hx => by
        rw [List.nodup_append] at hnd
        exact hnd.2.2 n hx n (by simp) rfl
      have hn1 : n + 1 ∉ L' := fun hx => by
        rw [List.nodup_append] at hnd
        exact hnd.2.2 (n + 1) hx (n + 1) (by simp) rfl
      simp only [List.mem_append, List.mem_cons, List.not_mem_nil, or_false] at hi
      rcases hi with hi | rfl | rfl
      · obtain ⟨L1, L2, rfl⟩ := List.append_of_mem hi
        have hx : i ∉ L1 := fun hx => by
          rw [List.append_assoc, List.nodup_append] at hnd
          exact hnd.2.2 i hx i (by simp) rfl
        have he : (L1 ++ i :: L2 ++ [n, n + 1]).erase i = (L1 ++ L2) ++ [n, n + 1] := by
          rw [List.append_assoc, List.erase_append_right _ hx, List.cons_append, List.erase_cons_head, List.append_assoc]
        rw [he]
        refine zX (fun v σ' q => .inr ⟨L1 ++ L2, rfl, zan ?_ hp1, zan ?_ hp2, q⟩) (zcf (L1 := L1) (L2 := L2) (zan ?_ hp1) (fun j hj => ?_) hl hd)
        · exact List.Sublist.append (List.Sublist.append (List.Sublist.refl _) (List.sublist_cons_self _ _)) (List.Sublist.refl _)
        · exact List.Sublist.append (List.Sublist.append (List.Sublist.refl _) (List.sublist_cons_self _ _)) (List.Sublist.refl _)
        · rw [List.append_assoc]
          exact List.Sublist.append (List.Sublist.refl _) (by simp)
        · cases hb : ((zaz ops).getD i 0).testBit j with
          | false => rfl
          | true => exact absurd (by simp [hj]) (hanc j hb)
      · rw [show (L' ++ [i, i + 1]).erase i = L' ++ [i + 1] by rw [List.erase_append_right _ hn, List.erase_cons_head]]
        exact zX (fun v σ' q => .inl ⟨hp2, q⟩) (front L' [i + 1] _ rfl hp1 (by
          rw [List.map_append]
          exact (zbU _ _).2 (zdk (fun A σ q => q.1) _ hd)))
      · rw [show (L' ++ [n, n + 1]).erase (n + 1) = L' ++ [n] by rw [List.erase_append_right _ hn1, List.erase_cons_tail (by simp), List.erase_cons_head]]
        refine zX (fun v σ' q => .inl ⟨hp1, q⟩) (zcf (L1 := L') (L2 := [n]) hp2 (fun j hj => ?_) hl (by
          rw [List.map_append]
          exact (zbU _ _).2 (zdk (fun A σ q => q.2) _ hd)))
        cases hb : ((zaz ops).getD (n + 1) 0).testBit j with
        | false => rfl
        | true => exact absurd (by simp [hj]) (hanc j hb)
  · intro k o hk hl
    simp only [Array.getD] at hl
    split at hl
    · simp at hl
    · rename_i hlt
      have := (List.getElem?_eq_some_iff.1 hk).1
      simp at hlt
      omega
  · intro i
    simp only [List.mem_append, List.mem_range, List.mem_cons, List.not_mem_nil, or_false, h4]
    constructor
    · intro hi
      have : i < n + 2 := by omega
      exact ⟨this, by simp [Array.getD, h4, this]⟩
    · rintro ⟨hi, _⟩; omega
  · rw [List.nodup_append]
    refine ⟨List.nodup_range, by simp, fun x hx y hy e => ?_⟩
    simp only [List.mem_range, List.mem_cons, List.not_mem_nil, or_false] at hx hy
    omega
  · rintro S' σ' A' a' k1 k2 k3 (⟨_, k4⟩ | ⟨L', e, _⟩)
    · exact ⟨S', A', σ', rfl, hk.trans k1, k2, k3, k4⟩
    · simp at e
def zlc (ops : List Oper) (rc : Oper → Bool) (ls : List Nat) (x y : Nat) : Bool :=
  zdj ops && zaj ops rc (zaz ops) (ls ++ [x]) && zaj ops rc (zaz ops) (ls ++ [y]) && decide ((ls ++ [x, y]).length = ops.length) && (ls ++ [x, y]).all (fun i => decide (i < ops.length)) && decide ((ls ++ [x, y]).Nodup)
theorem zmB {L : List Nat} {m : Nat} (h1 : L.Nodup) (h2 : ∀ i ∈ L, i < m) (h3 : L.length = m) (i : Nat) : i ∈ L ↔ i < m := by
  refine ⟨h2 i, fun hi => ?_⟩
  apply Classical.byContradiction
  intro hn
  have := zcJ (l := i :: L) (m := List.range m) (List.nodup_cons.2 ⟨hn, h1⟩) fun x hx => by
    rw [List.mem_range]
    rcases List.mem_cons.1 hx with rfl | hx
    · exact hi
    · exact h2 x hx
  simp at this
  omega
theorem zqY {K : Exit → zn → St → Prop} {A : zn} {σ : St} {id : Nat} {ops : List Oper} (ls : List Nat) (x y : Nat) (rc : Oper → Bool) (hm : P.follows .mixedOrders = true) (hc : zlc ops rc ls x y = true)
    (h : dops P N (ls.map (zZ ops rc)) A σ fun A' σ' => dops P N [zZ ops rc x, zZ ops rc y] A' σ' (K .normal) ∧ dops P N [zZ ops rc y, zZ ops rc x] A' σ' (K .normal)) :
    AWP P r N (.region id ops.toArray true) K A σ := by
  intro S a hS hT
  simp only [zlc, Bool.and_eq_true, decide_eq_true_eq, List.all_eq_true] at hc
  obtain ⟨⟨⟨⟨⟨h1, h2⟩, h3⟩, h4⟩, h5⟩, h6⟩ := hc
  have hfull := zmB h6 h5 h4
  refine wpIn_region_any hm ?_
  have hk := zg1 S
  let S1 : Ctx := { S with w := { S.w with drawn := S.w.drawn + 1 } }
  have hS1 : SRel σ S1 := ⟨hS.kn, fun i o hi => by
    obtain ⟨g1, g2, g3, g4⟩ := hS.live i o hi
    exact ⟨g1, g2, g3, OBRel.mono hk g1 rfl g4⟩, hS.inj, hS.gl.ev hk⟩
  let J : List Nat → zn → St → Prop := fun L A σ => (zaj ops rc (zaz ops) L = true ∧ dops P N (L.map (zZ ops rc)) A σ (K .normal)) ∨
    ∃ L', L = L' ++ [x, y] ∧ zaj ops rc (zaz ops) (L' ++ [x]) = true ∧ zaj ops rc (zaz ops) (L' ++ [y]) = true ∧
      dops P N (L'.map (zZ ops rc)) A σ fun A' σ' => dops P N [zZ ops rc x, zZ ops rc y] A' σ' (K .normal) ∧ dops P N [zZ ops rc y, zZ ops rc x] A' σ' (K .normal)
  have key := zjZ (P := P) (N := N) (r := r) (ops := ops) (rc := rc) (Q := zie N S K) h1 J ?_ ops.length (ls ++ [x, y]) (Array.replicate ops.length false) (A := A) (σ := σ) (S := S1) (a := a) (by simp) ?_ ?_ h6 (by omega) (.inr ⟨_, rfl, h2, h3, h⟩) hS1 (hT.mono hk) ?_
  · have e : ops.toArray.size = ops.length := by simp
    rw [e]; exact key
  · intro L i A σ hnd hi hlt hanc hJ hl
    have front : ∀ (L1 L2 : List Nat) (K' : zn → St → Prop), L = L1 ++ i :: L2 → zaj ops rc (zaz ops) (L1 ++ [i]) = true → dops P N ((L1 ++ i :: L2).map (zZ ops rc)) A σ K' →
        zak P (zZ ops rc i) A σ fun v σ' => dops P N ((L1 ++ L2).map (zZ ops rc)) (zK N A (zZ ops rc i).o.dst v) σ' K' := fun L1 L2 K' e hp hd =>
      zcf hp (fun j hj => by
        cases hb : ((zaz ops).getD i 0).testBit j with
        | false => rfl
        | true => exact absurd (by rw [e]; simp [hj]) (hanc j hb)) hl hd
    rcases hJ with ⟨hp, hd⟩ | ⟨L', rfl, hp1, hp2, hd⟩
    · obtain ⟨L1, L2, rfl⟩ := List.append_of_mem hi
      have hn : i ∉ L1 := fun hx => by
        rw [List.nodup_append] at hnd
        exact hnd.2.2 i hx i (by simp) rfl
      rw [show (L1 ++ i :: L2).erase i = L1 ++ L2 by rw [List.erase_append_right _ hn, List.erase_cons_head]]
      exact zX (fun v σ' q => .inl ⟨zan (by simp) hp, q⟩) (front L1 L2 _ rfl (zan (by simp) hp) hd)
    · have hn : x ∉ L' := fun hx => by
        rw [List.nodup_append] at hnd
        exact hnd.2.2 x hx x (by simp) rfl
      have hn1 : y ∉ L' := fun hx => by
        rw [List.nodup_append] at hnd
        exact hnd.2.2 y hx y (by simp) rfl
      have hxy : x ≠ y := fun e => by
        rw [List.nodup_append] at hnd
        have := hnd.2.1
        rw [e] at this
        simp at this
      simp only [List.mem_append, List.mem_cons, List.not_mem_nil, or_false] at hi
      rcases hi with hi | rfl | rfl
      · obtain ⟨L1, L2, rfl⟩ := List.append_of_mem hi
        have hx : i ∉ L1 := fun hx => by
          rw [List.append_assoc, List.nodup_append] at hnd
          exact hnd.2.2 i hx i (by simp) rfl
        have he : (L1 ++ i :: L2 ++ [x, y]).erase i = (L1 ++ L2) ++ [x, y] := by
          rw [List.append_assoc, List.erase_append_right _ hx, List.cons_append, List.erase_cons_head, List.append_assoc]
        rw [he]
        refine zX (fun v σ' q => .inr ⟨L1 ++ L2, rfl, zan ?_ hp1, zan ?_ hp2, q⟩) (zcf (L1 := L1) (L2 := L2) (zan ?_ hp1) (fun j hj => ?_) hl hd)
        · exact List.Sublist.append (List.Sublist.append (List.Sublist.refl _) (List.sublist_cons_self _ _)) (List.Sublist.refl _)
        · exact List.Sublist.append (List.Sublist.append (List.Sublist.refl _) (List.sublist_cons_self _ _)) (List.Sublist.refl _)
        · rw [List.append_assoc]
          exact List.Sublist.append (List.Sublist.refl _) (by simp)
        · cases hb : ((zaz ops).getD i 0).testBit j with
          | false => rfl
          | true => exact absurd (by simp [hj]) (hanc j hb)
      · rw [show (L' ++ [i, y]).erase i = L' ++ [y] by rw [List.erase_append_right _ hn, List.erase_cons_head]]
        exact zX (fun v σ' q => .inl ⟨hp2, q⟩) (front L' [y] _ rfl hp1 (by
          rw [List.map_append]
          exact (zbU _ _).2 (zdk (fun A σ q => q.1) _ hd)))
      · rw [show (L' ++ [x, i]).erase i = L' ++ [x] by rw [List.erase_append_right _ hn1, List.erase_cons_tail (by simpa using hxy), List.erase_cons_head]]
        refine zX (fun v σ' q => .inl ⟨hp1, q⟩) (zcf (L1 := L') (L2 := [x]) hp2 (fun j hj => ?_) hl (by
          rw [List.map_append]
          exact (zbU _ _).2 (zdk (fun A σ q => q.2) _ hd)))
        cases hb : ((zaz ops).getD i 0).testBit j with
        | false => rfl
        | true => exact absurd (by simp [hj]) (hanc j hb)
  · intro k o hk hl
    simp only [Array.getD] at hl
    split at hl
    · simp at hl
    · rename_i hlt
      have := (List.getElem?_eq_some_iff.1 hk).1
      simp at hlt
      omega
  · intro i
    rw [hfull i]
    constructor
    · intro hi
      exact ⟨hi, by simp [Array.getD, hi]⟩
    · rintro ⟨hi, _⟩; exact hi
  · rintro S' σ' A' a' k1 k2 k3 (⟨_, k4⟩ | ⟨L', e, _⟩)
    · exact ⟨S', A', σ', rfl, hk.trans k1, k2, k3, k4⟩
    · simp at e
def zgj (o : Oper) : Bool := match o.op with | .call { callee := .value _, .. } => true | _ => false
end
end Go.Proofs.YtckabcbfbpejkaaGreatDoor.Av
namespace Go.Proofs.YtckabcbfbpejkaaGreatDoor.Av
set_option linter.unusedVariables false
open Go
set_option linter.unusedSimpArgs false
section
variable {P : Program} {N : Nat} {A : zn} {σ σ0 : St}
theorem zfY {fn : Func} {rv x : AV} {e : Exit} (he : e = .normal ∨ e = .ret) (hx : Ext σ0 σ) (h : zaG P σ.m A fn.results = some x) (hg : zad σ0.m σ.m x = rv) : zd3 P fn σ0 rv e A σ :=
  ⟨he, hx.nx, fun i hi => by
    obtain ⟨o, ho⟩ := Option.ne_none_iff_exists'.1 hi
    rw [ho]; exact hx.m i o ho, x, h, by rw [hg]; exact Weaker.refl _⟩
theorem zc0 {m' m : zL} {i : Id} {k off : Nat} {es : List AV} {e : AV} (h1 : m' i = none) (h2 : m i = some (.buf es)) (h3 : es[k]? = some e) : zE m' m (.rp i k off) = .pp e.cells off := by
  simp only [zE, h1, h2, h3]
theorem zij {m' m : zL} {i : Id} {off len : Nat} {es : List AV} (h1 : m' i = none) (h2 : m i = some (.buf es)) (h3 : off + len ≤ es.length) : zE m' m (.rs i off len) = .sl i.sz ((es.drop off).take len) false := by
  simp only [zE, h1, h2, h3, if_true]
theorem zfZ (m' m : zL) {K : Id → Prop} (hK : ∀ i, ¬ K i) : ∀ {a : AV}, a.ids K → zE m' m a = a
  | .rp i k off, h => by simp only [AV.ids] at h; exact absurd h (hK i)
  | .rs i off len, h => by simp only [AV.ids] at h; exact absurd h (hK i)
  | .raw _, _ | .agg _, _ | .tup _, _ | .pp _ _, _ | .sl _ _ _, _ | .fn _ _ _, _ | .mp _, _ | .ifc _ _, _ | .any, _ => rfl
theorem zfe (m' m : zL) {K : Id → Prop} (hK : ∀ i, ¬ K i) : ∀ {l : List AV}, zx K l → l.map (zE m' m) = l
  | [], _ => rfl
  | a :: l, h => by
    simp only [zx] at h
    rw [List.map_cons, zfZ m' m hK h.1, zfe m' m hK h.2]
theorem zlL (m' m : zL) {a : AV} (h : noIds a) : zad m' m a = a := by
  have hK : ∀ i : Id, ¬ (fun _ : Id => False) i := fun _ h => h
  unfold noIds at h
  cases a with
  | agg cs => simp only [AV.ids] at h; simp only [zad, zfe m' m hK h]
  | tup vs =>
    simp only [AV.ids] at h
    simp only [zad]
    congr 1
    induction vs with
    | nil => rfl
    | cons v vs ih =>
      simp only [zx] at h
      rw [List.map_cons, ih h.2]
      congr 1
      have h1 := h.1
      split
      · simp only [AV.ids] at h1; rw [zfe m' m hK h1]
      · exact zfZ m' m hK h1
  | _ => exact zfZ m' m hK h
theorem zc1 {fn : Func} {rv : AV} {e : Exit} (he : e = .normal ∨ e = .ret) (hn : noIds rv) (hx : Ext σ0 σ) (h : zaG P σ.m A fn.results = some rv) : zd3 P fn σ0 rv e A σ :=
  zfY he hx h (zlL _ _ hn)
theorem zlM {a b : AV} {l : List AV} (h : Weaker a b) : Weaker (.tup (a :: l)) (.tup (b :: l)) := by
  intro S v hv
  simp only [VRel, LRel] at hv ⊢
  obtain ⟨m, e, u, us, h1, h2, h3⟩ := hv
  exact ⟨m, e, u, us, h1, h _ _ h2, h3⟩
theorem zqg {a b : AV} {l : List AV} (h : Weaker a b) : Weaker (.agg (a :: l)) (.agg (b :: l)) := by
  intro S v hv
  simp only [VRel, LRel] at hv ⊢
  obtain ⟨m, e, u, us, h1, h2, h3⟩ := hv
  exact ⟨m, e, u, us, h1, h _ _ h2, h3⟩
theorem zmC {fn : Func} {rv x : AV} {e : Exit} (he : e = .normal ∨ e = .ret) (hx : Ext σ0 σ) (h : zaG P σ.m A fn.results = some x) (hg : Weaker (zad σ0.m σ.m x) rv) : zd3 P fn σ0 rv e A σ :=
  ⟨he, hx.nx, fun i hi => by
    obtain ⟨o, ho⟩ := Option.ne_none_iff_exists'.1 hi
    rw [ho]; exact hx.m i o ho, x, h, hg⟩
theorem zqZ {fn : Func} {e : Exit} {n : Nat} {v : AV} {es : List AV} {u : Value} (he : e = .normal ∨ e = .ret) (h : zaG P σ.m A fn.results = some (.tup [v, .raw u])) (hO : OwnL σ0 σ n v es) (hE : Ext σ0 σ) : zd3 P fn σ0 (.tup [.sl n es false, .raw u]) e A σ := by
  refine zmC he hE h ?_
  rcases hO with ⟨rfl, rfl⟩ | ⟨j, rfl, hj, hmj, hn⟩
  · exact zlM zcx
  · have e1 : zad σ0.m σ.m (.tup [.rs j 0 es.length, .raw u]) = .tup [.sl n es false, .raw u] := by
      simp only [zad, List.map_cons, List.map_nil]
      rw [zij hn hmj (by simp), hj]; simp
    rw [e1]; exact Weaker.refl _
theorem zrq {fn : Func} {e : Exit} {i : Id} {a : AV} (he : e = .normal ∨ e = .ret) (hx : Ext σ0 σ) (h : zaG P σ.m A fn.results = some (.rp i 0 0)) (h1 : σ0.m i = none) (h2 : σ.m i = some (.buf [a])) : zd3 P fn σ0 (.pp a.cells 0) e A σ :=
  zfY he hx h (by simp only [zad]; exact zc0 h1 h2 rfl)
theorem zq0 {fn : Func} {e : Exit} {i : Id} {a : AV} {u : Value} (he : e = .normal ∨ e = .ret) (hx : Ext σ0 σ) (h : zaG P σ.m A fn.results = some (.tup [.rp i 0 0, .raw u])) (h1 : σ0.m i = none) (h2 : σ.m i = some (.buf [a])) : zd3 P fn σ0 (.tup [.pp a.cells 0, .raw u]) e A σ :=
  zfY he hx h (by simp only [zad, List.map_cons, List.map_nil]; rw [zc0 h1 h2 rfl]; rfl)
end
@[simp] theorem zqh {dst : Option Nat} {op : Op} {ty : TypeId} {pos : String} {aft : Array Edge} {gd : Option (Nat × Bool)} : zgj ⟨dst, op, ty, pos, aft, gd⟩ = match op with | .call { callee := .value _, .. } => true | _ => false := (rfl)
def lsO (ks : List Nat) (o : Oper) : Bool := zgj o || (match o.dst with | some d => ks.contains d | none => false)
@[simp] theorem zsA {ks : List Nat} {dst : Option Nat} {op : Op} {ty : TypeId} {pos : String} {aft : Array Edge} {gd : Option (Nat × Bool)} : lsO ks ⟨dst, op, ty, pos, aft, gd⟩ = ((match op with | .call { callee := .value _, .. } => true | _ => false) || (match dst with | some d => ks.contains d | none => false)) := (rfl)
@[simp] theorem zsB {v : Value} : cellOK (.raw v) = v.oneCell' := (rfl)
@[simp] theorem zs3 {r : List AV} {o : Nat} : cellOK (.pp r o) = true := (rfl)
@[simp] theorem zs4 {i : Id} {k o : Nat} : cellOK (.rp i k o) = true := (rfl)
@[simp] theorem zs5 {z : Nat} {es : List AV} {b : Bool} : cellOK (.sl z es b) = true := (rfl)
@[simp] theorem zs6 {i : Id} {o n : Nat} : cellOK (.rs i o n) = true := (rfl)
@[simp] theorem zs7 {f : Fn} {a b : List AV} : cellOK (.fn f a b) = true := (rfl)
@[simp] theorem zs8 {i : Id} : cellOK (.mp i) = true := (rfl)
@[simp] theorem zsC {t : TypeId} {a : AV} : cellOK (.ifc t a) = true := (rfl)
@[simp] theorem zsD {cs : List AV} : cellOK (.agg cs) = false := (rfl)
end Go.Proofs.YtckabcbfbpejkaaGreatDoor.Av
namespace Go.Proofs.YtckabcbfbpejkaaGreatDoor.Av
open Go
set_option linter.unusedSimpArgs false
set_option linter.unusedVariables false
section
variable {P : Program} {r : Option Nat} {N : Nat} {A : zn} {σ : St} {K : Exit → zn → St → Prop}
theorem zmD {S : Ctx} {i : Id} {ents ents' : List (Value × AV)} (hS : SRel σ S) (hm : σ.m i = some (.map ents)) (hp : ents.Perm ents') : SRel (σ.set i (.map ents')) S := by
  refine ⟨hS.kn, fun j o hj => ?_, fun j j' hj hj' e => ?_, hS.gl⟩
  · by_cases e : j = i
    · subst e
      have : o = .map ents' := by
        simp only [St.set, hm, Option.isSome_some, and_self, if_true, Option.some.injEq] at hj
        exact hj.symm
      subst this
      obtain ⟨h1, h2, h3, es, clock, e0, g1, g2, g3⟩ := hS.live j _ hm
      exact ⟨h1, h2, h3, es, clock, e0, g1, g2.trans hp, g3⟩
    · have hj : σ.m j = some o := by simpa [St.set, e] using hj
      exact hS.live j o hj
  · have hn : ∀ j, (σ.set i (.map ents')).m j ≠ none → σ.m j ≠ none := fun j hj => by
      by_cases e : j = i
      · subst e; rw [hm]; simp
      · simpa [St.set, e] using hj
    exact hS.inj j j' (hn j hj) (hn j' hj') e
theorem zrr {c : Code} {i : Id} {ents ents' : List (Value × AV)} (hm : σ.m i = some (.map ents)) (hp : ents.Perm ents') (h : AWP P r N c K A (σ.set i (.map ents'))) : AWP P r N c K A σ :=
  fun S a hS hT => h S a (zmD hS hm hp) hT
theorem zqi {f : FuncId} {args : List AV} {ents : List (Value × AV)} (hpl : zcH (ents.map (·.2)) = true)
    (h : ∀ σ, ACalls P f args σ fun x σ' => ∃ i, x = .mp i ∧ σ'.m i = some (.map ents) ∧ σ.m i = none ∧ Ext σ σ') : MCalls P f args 0 (.map ents) .mp := by
  intro σ slot
  refine ⟨(h σ).1, fun S vs hS hl => ((h σ).2 S vs hS hl).mono ?_⟩
  rintro e w' ⟨S', σ', x, v, rfl, rfl, k, hS', hv, i, rfl, hi, hnone, hE⟩
  let n : Id := ⟨slot, σ.nx slot, 0⟩
  have hnK : ¬ S.K n := fun hK => by have := hS.kn n hK; simp [n] at this
  let S2 : Ctx := { S' with mu := fun j => if j = n then S'.mu i else S'.mu j, K := fun j => S.K j ∨ j = n }
  have hmu : ∀ j, S.K j → S2.mu j = S'.mu j := fun j hj => by
    have : j ≠ n := fun e => hnK (e ▸ hj)
    simp [S2, this]
  have hmun : S2.mu n = S'.mu i := by simp [S2]
  have hsub : Sub (S'.names S.K) S2 := ⟨fun _ h => h, fun _ _ _ => rfl, fun j hj => ⟨hmu j hj, .inl hj⟩, Nat.le_refl _, fun _ _ => rfl⟩
  obtain ⟨i1, i2, i3, es, clock, e0, g1, g2, g3, g4, g5⟩ := hS'.live i _ hi
  simp only [VRel] at hv
  refine ⟨S2, _, .mp n, v, rfl, rfl, ⟨k.size, k.heap, k.O, fun j hj => ⟨(hmu j hj).trans (k.mu j hj).1, .inl hj⟩, k.cells, k.lim, k.io⟩, ⟨?_, ?_, ?_, hS'.gl⟩, ?_, rfl, rfl⟩
  · rintro j (hj | rfl)
    · exact Nat.lt_of_lt_of_le (hS.kn j hj) (St.new_le _ _ _ _ _)
    · simp [St.new, n]
  · intro j o hj
    by_cases e : j = n
    · subst e
      have : o = .map ents := by
        have := zjW (σ := σ) (slot := slot) (sz := 0) (o := .map ents)
        rw [this] at hj
        exact (Option.some.inj hj).symm
      subst this
      have hpl0 : zcH (e0.map (·.2)) = true := by
        have hall : ∀ l : List AV, zcH l = true ↔ ∀ a ∈ l, a.plain = true := by
          intro l
          induction l with
          | nil => simp [zcH]
          | cons a l ih => simp [zcH, ih]
        rw [hall] at hpl ⊢
        exact fun a ha => hpl a ((g2.map _).mem_iff.1 ha)
      exact ⟨.inr rfl, by rw [hmun]; exact i2, by rw [hmun]; exact i3, es, clock, e0, by rw [hmun]; exact g1, g2, g3, LRel.plain _ _ g4 hpl0, g5⟩
    · have hj : σ.m j = some o := by rw [zeg e] at hj; exact hj
      obtain ⟨q1, q2, q3, q4⟩ := hS.live j o hj
      obtain ⟨p1, p2, p3, p4⟩ := hS'.live j o (hE.m j o hj)
      exact ⟨.inl q1, by rw [hmu j q1]; exact p2, by rw [hmu j q1]; exact p3, OBRel.sub hsub q1 (by rfl) (p4.names q4.ids)⟩
  · have hlive : ∀ j, (σ.new slot 0 (.map ents)).m j ≠ none → j ≠ n → σ.m j ≠ none := fun j hj hne => by rwa [zeg hne] at hj
    have hne : ∀ j, σ.m j ≠ none → S2.mu j = S'.mu j ∧ σ'.m j ≠ none ∧ j ≠ i := fun j hj => by
      obtain ⟨o, ho⟩ := Option.ne_none_iff_exists'.1 hj
      exact ⟨hmu j (hS.live j o ho).1, by rw [hE.m j o ho]; simp, fun e => by rw [e, hnone] at ho; cases ho⟩
    intro j j' hj hj' e
    by_cases e1 : j = n <;> by_cases e2 : j' = n
    · rw [e1, e2]
    · obtain ⟨a1, a2, a3⟩ := hne j' (hlive j' hj' e2)
      rw [e1, hmun, a1] at e
      exact absurd (hS'.inj i j' (by rw [hi]; simp) a2 e).symm a3
    · obtain ⟨a1, a2, a3⟩ := hne j (hlive j hj e1)
      rw [e2, hmun, a1] at e
      exact absurd (hS'.inj j i a2 (by rw [hi]; simp) e) a3
    · obtain ⟨a1, a2, a3⟩ := hne j (hlive j hj e1)
      obtain ⟨b1, b2, b3⟩ := hne j' (hlive j' hj' e2)
      rw [a1, b1] at e
      exact hS'.inj j j' a2 b2 e
  · simp only [VRel]
    exact ⟨by rw [hmun]; exact hv.1, .inr rfl⟩
theorem zqj {id : Nat} {ops : List Oper} (n : Nat) (rc : Oper → Bool) (hm : P.follows .mixedOrders = true) (hc : zgi ops rc n = true)
    (h : dops P N ((ops.take n).map (zbK ops rc)) A σ fun A' σ' => dops P N ((ops.drop n).map (zbK ops rc)) A' σ' (K .normal) ∧ dops P N ((ops.drop n).reverse.map (zbK ops rc)) A' σ' (K .normal)) :
    AWP P r N (.region id ops.toArray true) K A σ := by
  have hlen : ops.length = n + 2 := by
    simp only [zgi, Bool.and_eq_true, decide_eq_true_eq] at hc
    exact hc.2
  have hget : ∀ i (hi : i < ops.length), zZ ops rc i = zbK ops rc ops[i] := fun i hi => by simp [zZ, zbK, List.getElem?_eq_getElem hi]
  refine zmA n rc hm hc ?_
  have e1 : (List.range n).map (zZ ops rc) = (ops.take n).map (zbK ops rc) := by
    apply List.ext_getElem
    · simp; omega
    · intro i h1 h2
      have hi : i < n := by simpa using h1
      simp [hget i (by omega)]
  have e2 : ops.drop n = [ops[n], ops[n + 1]] := by
    rw [List.drop_eq_getElem_cons (by omega), List.drop_eq_getElem_cons (by omega), List.drop_of_length_le (by omega)]
  rw [e1, hget n (by omega), hget (n + 1) (by omega)]
  rw [e2] at h
  exact h
end
end Go.Proofs.YtckabcbfbpejkaaGreatDoor.Av
