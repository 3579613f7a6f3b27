/- Rules: the laws RuleTells, RuleBack, RuleApart, RuleFirst. Part 8 of 22: AvDraw, AvDraw2, AvStep, AvLoop, AvCut, AvOwn, AvGath, AvGath2, AvDraw3, AvGive, AvMak. -/
import Derived.Test.YtckabcbfbpejkaaDoorRx7
import Derived.OrdersIn
namespace Go.Proofs.YtckabcbfbpejkaaDoor.Av
open Go
set_option linter.unusedSimpArgs false
set_option linter.unusedVariables false
theorem zlv {P : Program} {m : zE} {ρ ρ' : Operand → AV} {op : Op} (h : ∀ x ∈ op.operands, ρ x = ρ' x) : aop P m ρ op = aop P m ρ' op := by
  have hp : ∀ (ps : Array (Nat × Operand)), (∀ x ∈ (ps.toList.map (·.2)).toArray, ρ x = ρ' x) → ps.toList.map (fun p => (p.1, ρ p.2)) = ps.toList.map (fun p => (p.1, ρ' p.2)) := fun ps h =>
    List.map_congr_left fun p hp => by rw [h p.2 (by simp; exact ⟨p.1, by simpa using hp⟩)]
  cases op with
  | build t ps => simp only [aop]; rw [hp ps (by simpa only [Op.operands] using h)]
  | buildSlice t n ps => simp only [aop]; rw [hp ps (by simpa only [Op.operands] using h)]
  | makeFunc f first caps =>
    simp only [Op.operands] at h
    simp only [aop]
    rw [List.map_congr_left (f := ρ) (g := ρ') fun x hx => h x (by simp; exact .inl (by simpa using hx)), List.map_congr_left (f := ρ) (g := ρ') fun x hx => h x (by simp; exact .inr (by simpa using hx))]
  | slice t x lo hi mx =>
    simp only [Op.operands] at h
    have h1 : lo.map ρ = lo.map ρ' := by cases lo with | none => rfl | some l => simp [h l (by simp)]
    have h2 : hi.map ρ = hi.map ρ' := by cases hi with | none => rfl | some l => simp [h l (by simp)]
    cases mx with
    | some m =>
      simp only [aop]
      rw [h x (by simp), h m (by simp), h1, h2]
    | none =>
      simp only [aop]
      rw [h x (by simp), h1, h2]
  | call c =>
    obtain ⟨callee, args, ts⟩ := c
    cases callee with
    | builtin b =>
      have ha : ∀ x ∈ args.toList, ρ x = ρ' x := fun x hx => h x (by simp [Op.operands, Call.operands]; simpa using hx)
      generalize hl : args.toList = l at ha
      cases b
      all_goals
        simp only [aop, hl]
        first
          | done
          | (match l, ha with
             | [], _ => rfl
             | [x], ha => have e1 := ha x (by simp); simp only [e1]
             | [x, y], ha => have e1 := ha x (by simp); have e2 := ha y (by simp); simp only [e1, e2]
             | [x, y, z], ha => have e1 := ha x (by simp); have e2 := ha y (by simp); have e3 := ha z (by simp); simp only [e1, e2, e3]
             | x :: y :: z :: w :: l, _ => rfl)
    | _ => rfl
  | pick c a b => simp only [Op.operands] at h; simp only [aop]; rw [h c (by simp), h a (by simp), h b (by simp)]
  | move x | assign x | box t x | load t x | nilCheck x | unOp o t x | convert s d x | fieldAddr t x f | field t x f | extract x f =>
    simp only [Op.operands] at h; simp only [aop]; rw [h x (by simp)]
  | mapUpdate t x k v => simp only [Op.operands] at h; simp only [aop]; rw [h x (by simp), h k (by simp), h v (by simp)]
  | makeMap t r => cases r <;> rfl
  | store t a v | binOp o t a v r | indexAddr t a v | index t a v | lookup t a v ok => simp only [Op.operands] at h; simp only [aop]; rw [h a (by simp), h v (by simp)]
  | _ => rfl
structure DOp where
  g : Option (Option Nat × Bool)
  rc : Bool
  o : Oper
def DOp.reads (d : DOp) : List Nat :=
  (d.o.op.operands.toList.filterMap fun | .tmp t => some t | _ => none) ++ (match d.g with | some (some t, _) => [t] | _ => [])
def zfC (P : Program) (dst : Option Nat) (f : AV) (args : List AV) (σ : St) (k : AV → St → Prop) : Prop :=
  match f with
  | .fn (.func n) first caps => (∃ r, RCalls P σ.m n (first ++ args ++ caps) r ∧ k r σ) ∨
      ∃ sz ob g slot, MCalls P n (first ++ args ++ caps) sz ob g ∧ dst = some slot ∧ k (g ⟨slot, σ.nx slot, sz⟩) (σ.new slot sz ob)
  | _ => False
def zgi (rc : Bool) (m : zE) : zE := match rc with | true => fun _ => none | false => m
def zfb (rc : Bool) (op : Op) (m : zE) : zE := match op with | .load _ _ => zgi rc m | _ => m
def za8 (P : Program) (rc : Bool) (o : Oper) (A : zk) (σ : St) (k : AV → St → Prop) : Prop :=
  match o.op with
  | .call { callee := .value f, args, .. } => match rc with
    | true => zfC P o.dst (zc A f) (args.toList.map (zc A)) σ k
    | false => zex P (zc A f) (args.toList.map (zc A)) σ k
  | op => OK (aop P (zfb rc op σ.m) (zc A) op) (Res.go (o.dst.getD 0) σ k)
def zae (P : Program) (d : DOp) (A : zk) (σ : St) (k : AV → St → Prop) : Prop := zbd d.g A (za8 P d.rc d.o A σ k) (k zK σ)
def dops (P : Program) (N : Nat) : List DOp → zk → St → (zk → St → Prop) → Prop
  | [], A, σ, K => K A σ
  | d :: rest, A, σ, K => zae P d A σ fun v σ' => dops P N rest (zD N A d.o.dst v) σ' K
section
variable {P : Program} {N : Nat}
theorem zj3 {A A' : zk} {ops : Array Operand} (h : ∀ t ∈ (ops.toList.filterMap fun | .tmp t => some t | _ => none), A t = A' t) : ∀ x ∈ ops, zc A x = zc A' x := fun x hx => by
  cases x with
  | tmp t => exact h t (List.mem_filterMap.2 ⟨.tmp t, by simpa using hx, rfl⟩)
  | _ => rfl
theorem zje {g : Option (Option Nat × Bool)} {A A' : zk} (h : ∀ t b, g = some (some t, b) → A t = A' t) (y n : Prop) : zbd g A y n = zbd g A' y n := by
  unfold zbd
  split
  · rfl
  · rfl
  · rename_i t b; rw [h t b rfl]
theorem zkK {d : DOp} {A A' : zk} (h : ∀ t ∈ d.reads, A t = A' t) (σ : St) (k : AV → St → Prop) : zae P d A σ k = zae P d A' σ k := by
  unfold zae
  rw [zje (A := A) (A' := A') fun t b e => h t (by simp [DOp.reads, e])]
  have ho : ∀ x ∈ d.o.op.operands, zc A x = zc A' x := zj3 fun t ht => h t (List.mem_append_left _ ht)
  congr 1
  unfold za8
  split
  · rename_i f args ts e
    rw [e] at ho
    have hf : zc A f = zc A' f := ho f (by simp [Op.operands, Call.operands])
    have ha : args.toList.map (zc A) = args.toList.map (zc A') := List.map_congr_left fun x hx => ho x (by simp [Op.operands, Call.operands]; exact .inr (by simpa using hx))
    rw [hf, ha]
  · rw [zlv ho]
theorem zfV {g : Option (Option Nat × Bool)} {A : zk} {y y' n n' : Prop} (h : zbd g A y n) (hy : y → y') (hn : n → n') : zbd g A y' n' := by
  unfold zbd at *
  split
  · exact hy h
  · exact hn h
  · rename_i t b
    simp only [] at h
    split
    · rename_i c e; rw [e] at h; exact ⟨fun x => hy (h.1 x), fun x => hn (h.2 x)⟩
    · rename_i l e; rw [e] at h; exact hn h
    · rename_i e1 e2
      revert h
      split
      · rename_i c e; exact (e1 c e).elim
      · rename_i c e; exact (e2 c e).elim
      · exact id
theorem Res.go_mono {slot : Nat} {σ : St} {k k' : AV → St → Prop} (hk : ∀ v σ, k v σ → k' v σ) : ∀ {r : Res}, Res.go slot σ k r → Res.go slot σ k' r
  | .val _, h | .mk _ _ _, h | .wr _ _, h | .mv _ _ _, h | .mkm _, h | .wrm _ _, h | .wrv _ _ _, h | .mko _ _ _, h | .wro _ _ _, h => hk _ _ h
theorem zm6 {x : Option Res} {k k' : Res → Prop} (hk : ∀ r, k r → k' r) (h : OK x k) : OK x k' := by
  cases x with
  | none => exact h
  | some r => exact hk r h
theorem zii {rc : Bool} {o : Oper} {A : zk} {σ : St} {k k' : AV → St → Prop} (hk : ∀ v σ, k v σ → k' v σ) (h : za8 P rc o A σ k) : za8 P rc o A σ k' := by
  unfold za8 at *
  split
  · rename_i f args ts e
    simp only [e] at h
    cases rc with
    | true =>
      simp only [zfC] at h ⊢
      split at h
      · rcases h with ⟨r, h1, h2⟩ | ⟨sz, ob, g, slot, h1, h2, h3⟩
        · exact .inl ⟨r, h1, hk _ _ h2⟩
        · exact .inr ⟨sz, ob, g, slot, h1, h2, hk _ _ h3⟩
      · exact h.elim
    | false =>
      simp only [zex] at h ⊢
      split at h
      · exact h.mono hk
      · exact YK.mono hk h
      · exact h.elim
  · rename_i hn
    split at h
    · rename_i f args ts e; exact (hn _ _ _ e).elim
    · exact zm6 (fun r => Res.go_mono hk) h
theorem zR {d : DOp} {A : zk} {σ : St} {k k' : AV → St → Prop} (hk : ∀ v σ, k v σ → k' v σ) (h : zae P d A σ k) : zae P d A σ k' :=
  zfV h (zii hk) (hk _ _)
inductive Cls where
  | total | quiet | read | make | eff | ld | effm
deriving DecidableEq
def zaj (rc : Bool) (o : Oper) : Cls :=
  match o.op with
  | .move _ | .assign _ | .makeFunc .. => .total
  | .pick .. | .nilCheck _ | .binOp .. | .unOp .. | .convert .. | .slice .. | .fieldAddr .. | .field .. | .indexAddr .. | .index .. | .extract .. | .build .. => .quiet
  | .load .. => if rc then .quiet else .ld
  | .lookup .. => .read
  | .mapUpdate .. => .effm
  | .alloc .. | .box .. | .buildSlice .. => if o.dst.isSome then .make else .eff
  | .call { callee := .builtin b, .. } => match b with
    | .max | .min => .quiet
    | .len => .read
    | _ => .eff
  | .call { callee := .value _, .. } => if rc then .read else .eff
  | _ => .eff
def DOp.cls (d : DOp) : Cls := match zaj d.rc d.o with | .total => if d.g.isNone then .total else .quiet | c => c
def zbe (d : DOp) (A : zk) (σ : St) : Prop := ∀ t ∈ d.reads, (A t).ids fun i => i.nonce < σ.nx i.slot
structure GenForm (P : Program) (d : DOp) (A : zk) (rd : zE → AV → Prop) (mk : Nat → Nat → Ob → (Id → AV) → Prop) : Prop where
  iff : ∀ σ k, zae P d A σ k ↔ (∃ v, rd σ.m v ∧ k v σ) ∨ ∃ slot sz ob f, mk slot sz ob f ∧ k (f ⟨slot, σ.nx slot, sz⟩) (σ.new slot sz ob)
  up : ∀ σ slot sz o v, rd σ.m v → rd (St.new σ slot sz o).m v
  down : ∀ σ slot sz o v, zbe d A σ → rd (St.new σ slot sz o).m v → rd σ.m v
  dst : ∀ slot sz ob f, mk slot sz ob f → d.o.dst = some slot
structure ReadForm (P : Program) (d : DOp) (A : zk) (rd : zE → AV → Prop) : Prop where
  iff : ∀ σ k, zae P d A σ k ↔ ∃ v, rd σ.m v ∧ k v σ
  up : ∀ σ slot sz o v, rd σ.m v → rd (St.new σ slot sz o).m v
  down : ∀ σ slot sz o v, zbe d A σ → rd (St.new σ slot sz o).m v → rd σ.m v
structure MakeForm (P : Program) (d : DOp) (A : zk) (slot sz : Nat) (es : List AV) (f : Id → AV) : Prop where
  dst : d.o.dst = some slot
  iff : ∀ σ k, zae P d A σ k ↔ k (f ⟨slot, σ.nx slot, sz⟩) (σ.new slot sz (.buf es))
theorem ReadForm.gen {P : Program} {d : DOp} {A : zk} {rd : zE → AV → Prop} (h : ReadForm P d A rd) : GenForm P d A rd (fun _ _ _ _ => False) :=
  ⟨fun σ k => by rw [h.iff]; simp, h.up, h.down, fun _ _ _ _ h => h.elim⟩
theorem MakeForm.gen {P : Program} {d : DOp} {A : zk} {slot sz : Nat} {es : List AV} {f : Id → AV} (h : MakeForm P d A slot sz es f) : GenForm P d A (fun _ _ => False) (fun s z o g => s = slot ∧ z = sz ∧ o = .buf es ∧ g = f) :=
  ⟨fun σ k => by
    rw [h.iff]
    constructor
    · exact fun x => .inr ⟨_, _, _, _, ⟨rfl, rfl, rfl, rfl⟩, x⟩
    · rintro (⟨v, hv, _⟩ | ⟨s, z, o, g, ⟨rfl, rfl, rfl, rfl⟩, x⟩)
      · exact hv.elim
      · exact x, fun _ _ _ _ _ h => h, fun _ _ _ _ _ _ h => h, fun _ _ _ _ e => e.1 ▸ h.dst⟩
def zbI (g : Option (Option Nat × Bool)) (A : zk) : Option Bool :=
  match g with
  | none => some true
  | some (none, _) => some false
  | some (some t, b) => match A t with
    | .raw (.bool c) => some (c == b)
    | .raw (.tuple _) => some false
    | _ => none
theorem zbs {g : Option (Option Nat × Bool)} {A : zk} {y n : Prop} : zbd g A y n ↔ (zbI g A = some true ∧ y) ∨ (zbI g A = some false ∧ n) := by
  unfold zbd zbI
  split
  · simp
  · simp
  · rename_i t b
    split
    · rename_i c e
      by_cases h : c = b
      · simp [e, h]
      · simp [e, h]
    · rename_i e; simp [e]
    · rename_i e1 e2
      have : (match A t with
        | .raw (.bool c) => some (c == b)
        | .raw (.tuple _) => some false
        | _ => (none : Option Bool)) = none := by
        split
        · rename_i c e; exact (e1 _ e).elim
        · rename_i c e; exact (e2 _ e).elim
        · rfl
      simp only [this]
      simp
theorem zb2 {d : DOp} {A : zk} {rd : zE → AV → Prop} (h : ∀ σ k, za8 P d.rc d.o A σ k ↔ ∃ v, rd σ.m v ∧ k v σ)
    (up : ∀ σ slot sz o v, rd σ.m v → rd (St.new σ slot sz o).m v) (down : ∀ σ slot sz o v, zbe d A σ → rd (St.new σ slot sz o).m v → rd σ.m v) :
    ReadForm P d A fun m v => (zbI d.g A = some true ∧ rd m v) ∨ (zbI d.g A = some false ∧ v = zK) where
  iff := fun σ k => by
    unfold zae
    rw [zbs, h]
    constructor
    · rintro (⟨h1, v, h2, h3⟩ | ⟨h1, h2⟩)
      · exact ⟨v, .inl ⟨h1, h2⟩, h3⟩
      · exact ⟨_, .inr ⟨h1, rfl⟩, h2⟩
    · rintro ⟨v, ⟨h1, h2⟩ | ⟨h1, rfl⟩, h3⟩
      · exact .inl ⟨h1, v, h2, h3⟩
      · exact .inr ⟨h1, h3⟩
  up := fun σ slot sz o v hh => hh.imp (fun ⟨a, b⟩ => ⟨a, up σ slot sz o v b⟩) id
  down := fun σ slot sz o v l hh => hh.imp (fun ⟨a, b⟩ => ⟨a, down σ slot sz o v l b⟩) id
theorem zkL {d : DOp} {A : zk} {rd : zE → AV → Prop} {mk : Nat → Nat → Ob → (Id → AV) → Prop}
    (h : ∀ σ k, za8 P d.rc d.o A σ k ↔ (∃ v, rd σ.m v ∧ k v σ) ∨ ∃ slot sz ob f, mk slot sz ob f ∧ k (f ⟨slot, σ.nx slot, sz⟩) (σ.new slot sz ob))
    (up : ∀ σ slot sz o v, rd σ.m v → rd (St.new σ slot sz o).m v) (down : ∀ σ slot sz o v, zbe d A σ → rd (St.new σ slot sz o).m v → rd σ.m v) (dst : ∀ slot sz ob f, mk slot sz ob f → d.o.dst = some slot) :
    GenForm P d A (fun m v => (zbI d.g A = some true ∧ rd m v) ∨ (zbI d.g A = some false ∧ v = zK)) (fun s z o f => zbI d.g A = some true ∧ mk s z o f) where
  iff := fun σ k => by
    unfold zae
    rw [zbs, h]
    constructor
    · rintro (⟨h1, ⟨v, h2, h3⟩ | ⟨s, z, o, f, h2, h3⟩⟩ | ⟨h1, h2⟩)
      · exact .inl ⟨v, .inl ⟨h1, h2⟩, h3⟩
      · exact .inr ⟨s, z, o, f, ⟨h1, h2⟩, h3⟩
      · exact .inl ⟨_, .inr ⟨h1, rfl⟩, h2⟩
    · rintro (⟨v, ⟨h1, h2⟩ | ⟨h1, rfl⟩, h3⟩ | ⟨s, z, o, f, ⟨h1, h2⟩, h3⟩)
      · exact .inl ⟨h1, .inl ⟨v, h2, h3⟩⟩
      · exact .inr ⟨h1, h3⟩
      · exact .inl ⟨h1, .inr ⟨s, z, o, f, h2, h3⟩⟩
  up := fun σ slot sz o v hh => hh.imp (fun ⟨a, b⟩ => ⟨a, up σ slot sz o v b⟩) id
  down := fun σ slot sz o v hl hh => hh.imp (fun ⟨a, b⟩ => ⟨a, down σ slot sz o v hl b⟩) id
  dst := fun s z o f hh => dst s z o f hh.2
theorem zlw {o : Oper} {rc : Bool} (h : zaj rc o = .quiet ∨ zaj rc o = .total) (hnl : ∀ t x, o.op ≠ .load t x) (m m' : zE) (ρ : Operand → AV) : aop P m ρ o.op = aop P m' ρ o.op ∧ ∀ r, aop P m ρ o.op = some r → ∃ v, r = .val v := by
  unfold zaj at h
  cases ho : o.op with
  | call c =>
    obtain ⟨callee, args, ts⟩ := c
    rw [ho] at h
    cases callee with
    | builtin b =>
      cases b <;> simp only [reduceCtorEq, or_self] at h
      all_goals
        generalize hl : args.toList = l
        simp only [aop, hl]
        match l with
        | [] => exact ⟨rfl, fun r e => by simp at e⟩
        | [x] => exact ⟨rfl, fun r e => by simp at e⟩
        | [x, y] => exact ⟨rfl, fun r e => by simp only [Option.map_eq_some_iff] at e; obtain ⟨v, _, rfl⟩ := e; exact ⟨v, rfl⟩⟩
        | [x, y, z] => exact ⟨rfl, fun r e => by first | (simp at e; done) | (simp only [Option.map_eq_some_iff] at e; obtain ⟨v, _, rfl⟩ := e; exact ⟨v, rfl⟩)⟩
        | x :: y :: z :: w :: l => exact ⟨rfl, fun r e => by simp at e⟩
    | value f => cases rc <;> simp at h
    | _ => simp at h
  | move x | assign x | makeFunc x y z => exact ⟨rfl, fun r e => by simp only [aop, Option.some.injEq] at e; exact ⟨_, e.symm⟩⟩
  | pick c a b => exact ⟨rfl, fun r e => by simp only [aop] at e; split at e <;> simp only [Option.some.injEq, reduceCtorEq] at e; exact ⟨_, e.symm⟩⟩
  | nilCheck x => exact ⟨rfl, fun r e => by simp only [aop] at e; split at e <;> simp only [Option.some.injEq, reduceCtorEq] at e <;> exact ⟨_, e.symm⟩⟩
  | slice t x lo hi mx =>
    cases mx with
    | none => exact ⟨rfl, fun r e => by simp only [aop, Option.map_eq_some_iff] at e; obtain ⟨x, _, rfl⟩ := e; exact ⟨_, rfl⟩⟩
    | some x => exact ⟨rfl, fun r e => by simp only [aop, Option.map_eq_some_iff] at e; obtain ⟨x, _, rfl⟩ := e; exact ⟨_, rfl⟩⟩
  | extract t ix =>
    refine ⟨rfl, fun r e => ?_⟩
    simp only [aop] at e
    split at e
    · simp only [Option.map_eq_some_iff] at e; obtain ⟨x, _, rfl⟩ := e; exact ⟨_, rfl⟩
    · simp at e
  | binOp _ _ _ _ _ | unOp _ _ _ | convert _ _ _ | fieldAddr _ _ _ | field _ _ _ | indexAddr _ _ _ | index _ _ _ | build _ _ => exact ⟨rfl, fun r e => by simp only [aop, Option.map_eq_some_iff] at e; obtain ⟨x, _, rfl⟩ := e; exact ⟨_, rfl⟩⟩
  | load t x => exact absurd ho (hnl t x)
  | alloc _ | box _ _ | buildSlice _ _ _ => rw [ho] at h; simp at h; split at h <;> simp at h
  | _ => rw [ho] at h; simp at h
theorem zgY {rc : Bool} {op : Op} {m : zE} (h : ∀ t x, op ≠ .load t x) : zfb rc op m = m := by
  unfold zfb
  split
  · exact absurd rfl (h _ _)
  · rfl
theorem zgZ {o : Oper} {rc : Bool} (h : zaj rc o = .quiet ∨ zaj rc o = .total ∨ zaj rc o = .make) (hnl : ∀ t x, o.op ≠ .load t x) (A : zk) (σ : St) (k : AV → St → Prop) : za8 P rc o A σ k = OK (aop P σ.m (zc A) o.op) (Res.go (o.dst.getD 0) σ k) := by
  unfold za8
  split
  · rename_i f args ts e
    unfold zaj at h
    rw [e] at h
    cases rc <;> simp at h
  · rw [zgY hnl]
theorem zg0 {d : DOp} (h : zaj d.rc d.o = .quiet ∨ zaj d.rc d.o = .total) (A : zk) (σ : St) (k : AV → St → Prop) :
    za8 P d.rc d.o A σ k ↔ ∃ v, aop P (fun _ => none) (zc A) d.o.op = some (.val v) ∧ k v σ := by
  by_cases hl : ∃ t x, d.o.op = .load t x
  · obtain ⟨t, x, ho⟩ := hl
    unfold zaj at h
    rw [ho] at h
    have hrc : d.rc = true := by
      cases hr : d.rc with
      | true => rfl
      | false => rw [hr] at h; simp at h
    unfold za8
    rw [ho, hrc]
    simp only [zfb, zgi, aop]
    cases zat P (fun _ => none) t (zc A x) <;> simp [OK, Res.go]
  · have hnl : ∀ t x, d.o.op ≠ .load t x := fun t x e => hl ⟨t, x, e⟩
    rw [zgZ (h.imp id .inl) hnl]
    obtain ⟨e, hv⟩ := zlw (P := P) h hnl σ.m (fun _ => none) (zc A)
    rw [← e]
    cases hr : aop P σ.m (zc A) d.o.op with
    | none => simp [OK]
    | some r =>
      obtain ⟨v, rfl⟩ := hv r hr
      simp [OK, Res.go]
theorem zeB {d : DOp} (h : zaj d.rc d.o = .quiet ∨ zaj d.rc d.o = .total) (A : zk) : ∃ rd : AV → Prop, ReadForm P d A fun _ v => rd v :=
  ⟨_, zb2 (rd := fun _ v => aop P (fun _ => none) (zc A) d.o.op = some (.val v)) (zg0 h A) (fun _ _ _ _ _ h => h) (fun _ _ _ _ _ _ h => h)⟩
theorem zeC {d : DOp} (h : d.cls = .total) (A : zk) : ∃ v, ∀ σ k, zae P d A σ k ↔ k v σ := by
  unfold DOp.cls at h
  have hc : zaj d.rc d.o = .total := by
    revert h; split
    · rename_i e; exact fun _ => e
    · exact id
  rw [hc] at h
  have hg : d.g = none := by
    simp only [] at h
    split at h
    · rename_i e; simpa using e
    · cases h
  have key : ∃ v, aop P (fun _ => none) (zc A) d.o.op = some (.val v) := by
    unfold zaj at hc
    cases ho : d.o.op with
    | move x => exact ⟨_, rfl⟩
    | assign x => exact ⟨_, rfl⟩
    | makeFunc a b c => exact ⟨_, rfl⟩
    | call c =>
      obtain ⟨callee, args, ts⟩ := c
      rw [ho] at hc
      cases callee with
      | builtin b => cases b <;> simp at hc
      | value f => simp only [] at hc; split at hc <;> cases hc
      | _ => simp at hc
    | alloc _ | box _ _ | buildSlice _ _ _ => rw [ho] at hc; simp only [] at hc; split at hc <;> cases hc
    | load _ _ => rw [ho] at hc; simp only [] at hc; split at hc <;> cases hc
    | _ => rw [ho] at hc; simp at hc
  obtain ⟨v, hv⟩ := key
  refine ⟨v, fun σ k => ?_⟩
  unfold zae
  rw [hg]
  show za8 P d.rc d.o A σ k ↔ _
  rw [zg0 (.inr hc), hv]
  simp
theorem zij {σ : St} {slot sz : Nat} {o : Ob} {i : Id} (h : i.nonce < σ.nx i.slot) : (σ.new slot sz o).m i = σ.m i := by
  simp only [St.new]
  split
  · rename_i e; subst e; simp at h
  · rfl
theorem zaV {σ : St} {slot sz : Nat} {o : Ob} (i : Id) (x : Ob) (h : σ.m i = some x) : (σ.new slot sz o).m i = some x := by
  rw [zij (σ.wf i (by rw [h]; simp)), h]
theorem zdf {d : DOp} {A : zk} {σ : St} (h : zbe d A σ) (slot sz : Nat) (o : Ob) : ∀ x ∈ d.o.op.operands, (zc A x).ids fun i => (σ.new slot sz o).m i = σ.m i := fun x hx => by
  cases x with
  | tmp t => exact AV.ids_mono (fun i hi => zij hi) _ (h t (List.mem_append_left _ (List.mem_filterMap.2 ⟨.tmp t, by simpa using hx, rfl⟩)))
  | const v =>
    have hc : ∀ v, (zW v).ids fun i => (σ.new slot sz o).m i = σ.m i := fun v => by
      unfold zW; split <;> simp [AV.ids, zt]
    show (zx v).ids _
    unfold zx
    split
    · rename_i cs
      simp only [AV.ids]
      generalize cs.toList = l
      induction l with
      | nil => simp [zt]
      | cons a l ih => simp only [List.map_cons, zt]; exact ⟨hc a, ih⟩
    · exact hc v
  | global g => simp [zc, AV.ids]
  | func f => simp [zc, AV.ids, zt]
theorem zik {m m' : zE} (h : ∀ i o, m i = some o → m' i = some o) {t : TypeId} {x v : AV} (hx : zat P m t x = some v) : zat P m' t x = some v := by
  cases x <;> simp only [zat, reduceCtorEq] at hx ⊢
  · exact hx
  · rename_i i k off
    simp only [zcU] at hx ⊢
    cases hm : m i with
    | none => rw [hm] at hx; simp at hx
    | some o => rw [h i o hm]; rw [hm] at hx; exact hx
theorem zj4 {m m' : zE} {t : TypeId} {x : AV} (h : x.ids fun i => m' i = m i) : zat P m' t x = zat P m t x := by
  cases x <;> try rfl
  simp only [AV.ids] at h
  simp only [zat, zcU, h]
theorem zmm {m m' : zE} (h : ∀ i o, m i = some o → m' i = some o) {t : TypeId} {x v : AV} (hx : zbN P m t x = some v) : zbN P m' t x = some v := by
  unfold zbN at *
  split at hx <;> try (exact hx)
  rename_i i
  split at hx
  · rename_i hu
    rw [if_pos hu]
    split at hx
    · rename_i ents hm
      rw [h i _ hm]
      exact hx
    · simp at hx
  · simp at hx
theorem zkM {m m' : zE} {t : TypeId} {x : AV} (h : x.ids fun i => m' i = m i) : zbN P m' t x = zbN P m t x := by
  unfold zbN
  split <;> try rfl
  rename_i i
  simp only [AV.ids] at h
  rw [h]
def zec (P : Program) (f : AV) (args : List AV) (m : zE) (r : AV) : Prop := match f with | .fn (.func n) first caps => RCalls P m n (first ++ args ++ caps) r | _ => False
def zjf (P : Program) (dst : Option Nat) (f : AV) (args : List AV) (slot sz : Nat) (ob : Ob) (g : Id → AV) : Prop :=
  dst = some slot ∧ match f with | .fn (.func n) first caps => MCalls P n (first ++ args ++ caps) sz ob g | _ => False
theorem zlx {dst : Option Nat} {f : AV} {args : List AV} {σ : St} {k : AV → St → Prop} : zfC P dst f args σ k ↔ (∃ r, zec P f args σ.m r ∧ k r σ) ∨ ∃ slot sz ob g, zjf P dst f args slot sz ob g ∧ k (g ⟨slot, σ.nx slot, sz⟩) (σ.new slot sz ob) := by
  unfold zfC zec zjf
  split
  · constructor
    · rintro (h | ⟨sz, ob, g, slot, h1, h2, h3⟩)
      · exact .inl h
      · exact .inr ⟨slot, sz, ob, g, ⟨h2, h1⟩, h3⟩
    · rintro (h | ⟨slot, sz, ob, g, ⟨h1, h2⟩, h3⟩)
      · exact .inl h
      · exact .inr ⟨sz, ob, g, slot, h2, h1, h3⟩
  · simp
theorem zj5 {m m' : zE} (h : ∀ i o, m i = some o → m' i = some o) {t : TypeId} {x k v : AV} {ok : Bool} (hx : zaS P m t x k ok = some v) : zaS P m' t x k ok = some v := by
  unfold zaS at *
  split at hx
  · rename_i kt et i hmt
    split at hx
    · rename_i ents hm
      simp only [hmt, h i _ hm]
      exact hx
    · simp at hx
  · simp at hx
theorem ziC {m m' : zE} {t : TypeId} {x k : AV} {ok : Bool} (h : x.ids fun i => m' i = m i) : zaS P m' t x k ok = zaS P m t x k ok := by
  unfold zaS
  cases x <;> cases zdw P t <;> try rfl
  rename_i i p
  obtain ⟨kt, et⟩ := p
  simp only [AV.ids] at h
  simp only [h]
theorem zkN {σ : St} {i : Id} {old ents : List (Value × AV)} (h : σ.m i = some (.map old)) (t : TypeId) (x : AV) : zat P (σ.set i (.map ents)).m t x = zat P σ.m t x := by
  cases x <;> try rfl
  rename_i j k off
  simp only [zat, zcU]
  by_cases e : j = i
  · subst e; simp [St.set, h]
  · simp [St.set, e]
theorem zhI {d : DOp} (h : zaj d.rc d.o = .ld) (A : zk) : ∃ rd, ReadForm P d A rd ∧ ∀ (σ : St) i old ents v, σ.m i = some (.map old) → (rd (σ.set i (.map ents)).m v ↔ rd σ.m v) := by
  cases ho : d.o.op with
  | load t x =>
    have hrc : d.rc = false := by
      cases hr : d.rc with
      | false => rfl
      | true => unfold zaj at h; rw [ho, hr] at h; simp at h
    refine ⟨_, zb2 (rd := fun m v => zat P m t (zc A x) = some v) (fun σ k => ?_) (fun σ slot sz o v hv => zik zaV hv) (fun σ slot sz o v hl hv => ?_), fun σ i old ents v hi => ?_⟩
    · unfold za8
      rw [ho, hrc]
      simp only [zfb, zgi, aop]
      cases zat P σ.m t (zc A x) <;> simp [OK, Res.go]
    · rw [← hv, ← zj4 (zdf hl slot sz o x (by rw [ho]; simp [Op.operands]))]
    · rw [zkN hi]
  | call c =>
    obtain ⟨callee, args, ts⟩ := c
    unfold zaj at h
    rw [ho] at h
    cases callee with
    | builtin b => cases b <;> simp at h
    | value f => simp only [] at h; split at h <;> cases h
    | _ => simp at h
  | alloc _ | box _ _ | buildSlice _ _ _ => unfold zaj at h; rw [ho] at h; simp only [] at h; split at h <;> cases h
  | _ => unfold zaj at h; rw [ho] at h; simp at h
theorem zgj {m : zE} {t : TypeId} {x k v : AV} {r : Res} (h : zaI P m t x k v = some r) : ∃ i old ents, r = .wrm i ents ∧ m i = some (.map old) := by
  unfold zaI at h
  split at h
  · rename_i i _ _ _
    split at h
    · rename_i old hi
      split at h
      · split at h
        · split at h
          · simp only [Option.some.injEq] at h; exact ⟨_, _, _, h.symm, hi⟩
          · cases h
        · simp only [Option.some.injEq] at h; exact ⟨_, _, _, h.symm, hi⟩
        · cases h
      · cases h
    · cases h
  · cases h
theorem zfc {d : DOp} (h : zaj d.rc d.o = .effm) (A : zk) : ∃ wr : zE → Id → List (Value × AV) → Prop, ∀ (σ : St) k, zae P d A σ k ↔
    (zbI d.g A = some true ∧ ∃ i old ents, wr σ.m i ents ∧ σ.m i = some (.map old) ∧ k zK (σ.set i (.map ents))) ∨ (zbI d.g A = some false ∧ k zK σ) := by
  cases ho : d.o.op with
  | mapUpdate t x k' v =>
    refine ⟨fun m i ents => zaI P m t (zc A x) (zc A k') (zc A v) = some (.wrm i ents), fun σ k => ?_⟩
    unfold zae
    rw [zbs]
    have : za8 P d.rc d.o A σ k ↔ ∃ i old ents, zaI P σ.m t (zc A x) (zc A k') (zc A v) = some (.wrm i ents) ∧ σ.m i = some (.map old) ∧ k zK (σ.set i (.map ents)) := by
      unfold za8
      rw [ho]
      simp only [aop, zfb]
      cases hr : zaI P σ.m t (zc A x) (zc A k') (zc A v) with
      | none => simp [OK]
      | some r =>
        obtain ⟨i, old, ents, rfl, hi⟩ := zgj hr
        simp only [OK, Res.go]
        constructor
        · exact fun hk => ⟨i, old, ents, rfl, hi, hk⟩
        · rintro ⟨i', old', ents', e, hi', hk⟩
          simp only [Option.some.injEq, Res.wrm.injEq] at e
          obtain ⟨rfl, rfl⟩ := e
          exact hk
    rw [this]
  | call c =>
    obtain ⟨callee, args, ts⟩ := c
    unfold zaj at h
    rw [ho] at h
    cases callee with
    | builtin b => cases b <;> simp at h
    | value f => simp only [] at h; split at h <;> cases h
    | _ => simp at h
  | alloc _ | box _ _ | buildSlice _ _ _ | load _ _ => unfold zaj at h; rw [ho] at h; simp only [] at h; split at h <;> cases h
  | _ => unfold zaj at h; rw [ho] at h; simp at h
theorem zly {d : DOp} (h : zaj d.rc d.o = .read) (A : zk) : ∃ rd mk, GenForm P d A rd mk := by
  cases ho : d.o.op with
  | lookup t x k ok =>
    refine ⟨_, _, (zb2 (rd := fun m v => zaS P m t (zc A x) (zc A k) ok = some v) (fun σ k' => ?_) (fun σ slot sz o v hv => zj5 zaV hv) (fun σ slot sz o v hl hv => ?_)).gen⟩
    · unfold za8
      rw [ho]
      simp only [aop, zfb]
      cases zaS P σ.m t (zc A x) (zc A k) ok <;> simp [OK, Res.go]
    · rw [← hv, ← ziC (zdf hl slot sz o x (by rw [ho]; simp [Op.operands]))]
  | load t x => unfold zaj at h; rw [ho] at h; simp only [] at h; split at h <;> cases h
  | call c =>
    obtain ⟨callee, args, ts⟩ := c
    unfold zaj at h
    rw [ho] at h
    cases callee with
    | builtin b =>
      cases b <;> simp only [reduceCtorEq] at h
      have hr : ∀ σ k, za8 P d.rc d.o A σ k = OK (aop P σ.m (zc A) (.call { callee := .builtin .len, args := args, argTypes := ts })) (Res.go (d.o.dst.getD 0) σ k) := fun σ k => by
        unfold za8; rw [ho]; rfl
      generalize ht : ts.toList = tl
      generalize ha : args.toList = al
      by_cases hx : ∃ x t, al = [x] ∧ tl = [t]
      · obtain ⟨x, t, rfl, rfl⟩ := hx
        refine ⟨_, _, (zb2 (rd := fun m v => zbN P m t (zc A x) = some v) (fun σ k => ?_) (fun σ slot sz o v hv => zmm zaV hv) (fun σ slot sz o v hl hv => ?_)).gen⟩
        · rw [hr]
          simp only [aop, ha, ht]
          cases zbN P σ.m t (zc A x) <;> simp [OK, Res.go]
        · rw [← hv, ← zkM (zdf hl slot sz o x (by rw [ho]; simp [Op.operands, Call.operands]; rw [← Array.mem_toList_iff, ha]; simp))]
      · refine ⟨_, _, (zb2 (rd := fun _ _ => False) (fun σ k => ?_) (fun _ _ _ _ _ h => h) (fun _ _ _ _ _ _ h => h)).gen⟩
        rw [hr]
        have : aop P σ.m (zc A) (.call { callee := .builtin .len, args := args, argTypes := ts }) = none := by
          simp only [aop, ha, ht]
          match al, tl, hx with
          | [x], [t], hx => exact (hx ⟨x, t, rfl, rfl⟩).elim
          | [x], [], _ => rfl
          | [x], t :: u :: l, _ => rfl
          | [], _, _ => rfl
          | x :: y :: l, _, _ => rfl
        rw [this]
        simp [OK]
    | value f =>
      have hrc : d.rc = true := by
        simp only [] at h
        split at h
        · assumption
        · simp at h
      refine ⟨_, _, zkL (rd := zec P (zc A f) (args.toList.map (zc A))) (mk := zjf P d.o.dst (zc A f) (args.toList.map (zc A))) (fun σ k => ?_) (fun σ slot sz o v hv => ?_) (fun σ slot sz o v hl hv => ?_) fun _ _ _ _ h => h.1⟩
      · unfold za8
        rw [ho, hrc]
        exact zlx
      · revert hv
        unfold zec
        split
        · rintro (hv | ⟨args', h1, h2⟩)
          · exact .inl hv
          · exact .inr ⟨args', zjd zaV h1, h2⟩
        · exact id
      · have hev := zdf hl slot sz o
        rw [ho] at hev
        have hf := hev f (by simp [Op.operands, Call.operands])
        have ha : zt (fun i => (σ.new slot sz o).m i = σ.m i) (args.toList.map (zc A)) := by
          have hx : ∀ x ∈ args.toList, (zc A x).ids fun i => (σ.new slot sz o).m i = σ.m i := fun x hx => hev x (by simp [Op.operands, Call.operands]; exact .inr (by simpa using hx))
          generalize args.toList = l at hx
          induction l with
          | nil => simp [zt]
          | cons a l ih => simp only [List.map_cons, zt]; exact ⟨hx a (by simp), ih fun x h => hx x (by simp [h])⟩
        revert hv
        unfold zec
        split
        · rename_i n first caps e
          rw [e] at hf
          simp only [AV.ids] at hf
          rintro (hv | ⟨args', h1, h2⟩)
          · exact .inl hv
          · exact .inr ⟨args', zgX (zdZ.2 ⟨zdZ.2 ⟨hf.1, ha⟩, hf.2⟩) h1, h2⟩
        · exact id
    | _ => simp at h
  | alloc _ | box _ _ | buildSlice _ _ _ => unfold zaj at h; rw [ho] at h; simp only [] at h; split at h <;> cases h
  | _ => unfold zaj at h; rw [ho] at h; simp at h
theorem zlz {d : DOp} (h : zaj d.rc d.o = .make) (A : zk) : (∃ rd : AV → Prop, ReadForm P d A fun _ v => rd v) ∨ ∃ slot sz es f, MakeForm P d A slot sz es f := by
  have hr : ∀ σ k, za8 P d.rc d.o A σ k = OK (aop P σ.m (zc A) d.o.op) (Res.go (d.o.dst.getD 0) σ k) := zgZ (.inr (.inr h)) (fun t x e => by unfold zaj at h; rw [e] at h; simp only [] at h; split at h <;> cases h) A
  have hm : ∀ m, aop P m (zc A) d.o.op = aop P (fun _ => none) (zc A) d.o.op ∧ ∀ r, aop P m (zc A) d.o.op = some r → ∃ sz es f, r = .mk sz es f := fun m => by
    unfold zaj at h
    cases ho : d.o.op with
    | alloc t => exact ⟨rfl, fun r e => by simp only [aop, zdl] at e; split at e <;> simp only [Option.some.injEq, reduceCtorEq] at e; exact ⟨_, _, _, e.symm⟩⟩
    | box t x => exact ⟨rfl, fun r e => by simp only [aop, zfy] at e; split at e <;> simp only [Option.some.injEq, reduceCtorEq] at e; exact ⟨_, _, _, e.symm⟩⟩
    | buildSlice t n ps =>
      refine ⟨rfl, fun r e => ?_⟩
      simp only [aop, zbn] at e
      split at e
      · split at e
        · split at e
          · simp only [Option.map_eq_some_iff] at e; obtain ⟨x, _, rfl⟩ := e; exact ⟨_, _, _, rfl⟩
          · simp at e
        · simp at e
      · simp at e
    | call c =>
      obtain ⟨callee, args, ts⟩ := c
      rw [ho] at h
      cases callee with
      | builtin b => cases b <;> simp at h
      | value f => simp only [] at h; split at h <;> cases h
      | _ => simp at h
    | load _ _ => rw [ho] at h; simp only [] at h; split at h <;> cases h
    | _ => rw [ho] at h; simp at h
  have hd : d.o.dst.isSome := by
    unfold zaj at h
    cases ho : d.o.op with
    | alloc _ | box _ _ | buildSlice _ _ _ =>
      rw [ho] at h
      simp only [] at h
      split at h
      · assumption
      · cases h
    | call c =>
      obtain ⟨callee, args, ts⟩ := c
      rw [ho] at h
      cases callee with
      | builtin b => cases b <;> simp at h
      | value f => simp only [] at h; split at h <;> cases h
      | _ => simp at h
    | load _ _ => rw [ho] at h; simp only [] at h; split at h <;> cases h
    | _ => rw [ho] at h; simp at h
  obtain ⟨slot, hslot⟩ := Option.isSome_iff_exists.1 hd
  cases hg : zbI d.g A with
  | none =>
    refine .inl ⟨fun _ => False, ⟨fun σ k => ?_, fun _ _ _ _ _ h => h, fun _ _ _ _ _ _ h => h⟩⟩
    unfold zae; rw [zbs, hg]; simp
  | some b =>
    cases b with
    | false =>
      refine .inl ⟨fun v => v = zK, ⟨fun σ k => ?_, fun _ _ _ _ _ h => h, fun _ _ _ _ _ _ h => h⟩⟩
      unfold zae; rw [zbs, hg]; simp
    | true =>
      cases hx : aop P (fun _ => none) (zc A) d.o.op with
      | none =>
        refine .inl ⟨fun _ => False, ⟨fun σ k => ?_, fun _ _ _ _ _ h => h, fun _ _ _ _ _ _ h => h⟩⟩
        unfold zae; rw [zbs, hg, hr, (hm σ.m).1, hx]; simp [OK]
      | some r =>
        obtain ⟨sz, es, f, rfl⟩ := (hm _).2 r hx
        refine .inr ⟨slot, sz, es, f, hslot, fun σ k => ?_⟩
        unfold zae; rw [zbs, hg, hr, (hm σ.m).1, hx, hslot]; simp [OK, Res.go]
end
end Go.Proofs.YtckabcbfbpejkaaDoor.Av
namespace Go.Proofs.YtckabcbfbpejkaaDoor.Av
open Go
set_option linter.unusedSimpArgs false
set_option linter.unusedVariables false
section
variable {P : Program} {N : Nat}
def zdO (d : Option Nat) (l : List Nat) : Bool := match d with | some t => l.contains t | none => false
def zed (a b : Option Nat) : Bool := match a, b with | some s, some t => s == t | _, _ => false
def zdF (a b : DOp) : Bool := !zdO a.o.dst b.reads && !zdO b.o.dst a.reads && !zed a.o.dst b.o.dst
def zby (cj ci : Cls) : Bool :=
  match cj, ci with
  | .eff, .total => true
  | .eff, _ => false
  | .effm, .total => true
  | .effm, .ld => true
  | .effm, _ => false
  | .read, .eff | .make, .eff | .ld, .eff | .read, .effm | .make, .effm => false
  | _, _ => true
theorem zg1 {A : zk} {d : Option Nat} {v : AV} {t : Nat} (h : d ≠ some t) : zD N A d v t = A t := by
  cases d with
  | none => rfl
  | some s =>
    simp only [zD, put]
    rw [if_neg]
    rintro ⟨rfl, _⟩; exact h rfl
theorem zlA {A : zk} {d e : Option Nat} (h : zed d e = false) (v u : AV) : zD N (zD N A d v) e u = zD N (zD N A e u) d v := by
  cases d with
  | none => rfl
  | some s => cases e with
    | none => rfl
    | some t =>
      simp [zed] at h
      funext x
      simp only [zD, put]
      by_cases h1 : x = t ∧ t < N
      · have h2 : ¬ (x = s ∧ s < N) := fun h2 => h (h2.1.symm.trans h1.1)
        rw [if_pos h1, if_neg h2, if_pos h1]
      · by_cases h2 : x = s ∧ s < N
        · rw [if_neg h1, if_pos h2, if_pos h2]
        · rw [if_neg h1, if_neg h2, if_neg h2, if_neg h1]
theorem zjg {d : DOp} {A : zk} {e : Option Nat} {v : AV} (h : zdO e d.reads = false) (σ : St) (k : AV → St → Prop) : zae P d (zD N A e v) σ k = zae P d A σ k :=
  zkK (fun t ht => zg1 fun x => by
    subst x
    simp only [zdO, List.contains_eq_mem, decide_eq_false_iff_not] at h
    exact h ht) σ k
theorem zmn {σ : St} {s t z y : Nat} {o p : Ob} (h : s ≠ t) : (σ.new s z o).new t y p = (σ.new t y p).new s z o := by
  have h1 : (σ.new s z o).nx t = σ.nx t := by simp [St.new, Ne.symm h]
  have h2 : (σ.new t y p).nx s = σ.nx s := by simp [St.new, h]
  have hm : ((σ.new s z o).new t y p).m = ((σ.new t y p).new s z o).m := by
    funext j
    show (if j = ⟨t, (σ.new s z o).nx t, y⟩ then some p else (if j = ⟨s, σ.nx s, z⟩ then some o else σ.m j)) = (if j = ⟨s, (σ.new t y p).nx s, z⟩ then some o else (if j = ⟨t, σ.nx t, y⟩ then some p else σ.m j))
    rw [h1, h2]
    by_cases e1 : j = ⟨t, σ.nx t, y⟩
    · have e2 : ¬ j = ⟨s, σ.nx s, z⟩ := fun e2 => h (by rw [e1] at e2; injection e2 with q; exact q.symm)
      rw [if_pos e1, if_neg e2, if_pos e1]
    · by_cases e2 : j = ⟨s, σ.nx s, z⟩
      · rw [if_neg e1, if_pos e2, if_pos e2]
      · rw [if_neg e1, if_neg e2, if_neg e2, if_neg e1]
  have hn : ((σ.new s z o).new t y p).nx = ((σ.new t y p).new s z o).nx := by
    funext x
    simp only [St.new]
    split <;> split <;> rfl
  cases ha : (σ.new s z o).new t y p
  cases hb : (σ.new t y p).new s z o
  rw [ha, hb] at hm hn
  simp only at hm hn
  subst hm hn
  rfl
theorem zhJ {d : DOp} (h : d.cls ≠ .eff) (h' : d.cls ≠ .effm) (A : zk) : ∃ rd mk, GenForm P d A rd mk := by
  have h2 : zaj d.rc d.o ≠ .eff := fun e => h (by unfold DOp.cls; rw [e])
  have h3 : zaj d.rc d.o ≠ .effm := fun e => h' (by unfold DOp.cls; rw [e])
  cases hc : zaj d.rc d.o with
  | total => obtain ⟨rd, q⟩ := zeB (P := P) (.inr hc) A; exact ⟨_, _, q.gen⟩
  | quiet => obtain ⟨rd, q⟩ := zeB (P := P) (.inl hc) A; exact ⟨_, _, q.gen⟩
  | read => exact zly hc A
  | make => rcases zlz (P := P) hc A with ⟨rd, q⟩ | ⟨s, z, e, f, q⟩
            · exact ⟨_, _, q.gen⟩
            · exact ⟨_, _, q.gen⟩
  | eff => exact (h2 hc).elim
  | effm => exact (h3 hc).elim
  | ld => obtain ⟨rd, q, _⟩ := zhI (P := P) hc A; exact ⟨_, _, q.gen⟩
theorem zfW {d : DOp} (h : d.cls = .quiet ∨ d.cls = .total) (A : zk) : ∃ rd : AV → Prop, ReadForm P d A fun _ v => rd v := by
  refine zeB ?_ A
  unfold DOp.cls at h
  revert h
  split
  · rename_i e; exact fun _ => .inr e
  · exact fun h => h
theorem zg2 {d : DOp} {c : Cls} (h : d.cls = c) (hc : c ≠ .total) (hq : c ≠ .quiet) : zaj d.rc d.o = c := by
  unfold DOp.cls at h
  revert h
  split
  · intro h
    split at h
    · exact absurd h.symm hc
    · exact absurd h.symm hq
  · exact id
theorem zeD {d j : DOp} {A : zk} {σ : St} (h : zbe d A σ) (hd : zdO j.o.dst d.reads = false) (v : AV) : zbe d (zD N A j.o.dst v) σ := fun t ht => by
  rw [zg1 fun x => by rw [x] at hd; simp only [zdO, List.contains_eq_mem, decide_eq_false_iff_not] at hd; exact hd ht]
  exact h t ht
theorem zmo {d : DOp} {A : zk} {σ : St} (h : zbe d A σ) (slot sz : Nat) (o : Ob) : zbe d A (σ.new slot sz o) := fun t ht =>
  AV.ids_mono (fun i hi => Nat.lt_of_lt_of_le hi (St.new_le _ _ _ _ _)) _ (h t ht)
theorem zkO {j i : DOp} {A : zk} {σ : St} {X : AV → AV → St → Prop} (hp : zby j.cls i.cls = true) (hs : zed j.o.dst i.o.dst = false) (hli : i.cls = .total ∨ zbe i A σ)
    (h : zae P j A σ fun vj σ1 => zae P i A σ1 fun vi σ2 => X vj vi σ2) : zae P i A σ fun vi σ1 => zae P j A σ1 fun vj σ2 => X vj vi σ2 := by
  rcases hli with hi | hli
  · obtain ⟨v, hv⟩ := zeC (P := P) hi A
    rw [hv]
    exact zR (fun vj σ1 h => (hv _ _).1 h) h
  by_cases hje : j.cls = .effm
  · obtain ⟨wr, hwr⟩ := zfc (P := P) (zg2 hje (by simp) (by simp)) A
    have hi : i.cls = .total ∨ i.cls = .ld := by
      rw [hje] at hp
      cases hc : i.cls <;> rw [hc] at hp <;> simp [zby] at hp <;> simp
    rcases hi with hi | hi
    · obtain ⟨v, hv⟩ := zeC (P := P) hi A
      rw [hv]
      exact zR (fun vj σ1 h => (hv _ _).1 h) h
    · obtain ⟨rd, hrd, hset⟩ := zhI (P := P) (zg2 hi (by simp) (by simp)) A
      rw [hwr] at h
      rw [hrd.iff]
      rcases h with ⟨hg, iM, old, ents, h1, h2, h3⟩ | ⟨hg, h3⟩
      · rw [hrd.iff] at h3
        obtain ⟨v, h4, h5⟩ := h3
        exact ⟨v, (hset σ iM old ents v h2).1 h4, (hwr _ _).2 (.inl ⟨hg, iM, old, ents, h1, h2, h5⟩)⟩
      · rw [hrd.iff] at h3
        obtain ⟨v, h4, h5⟩ := h3
        exact ⟨v, h4, (hwr _ _).2 (.inr ⟨hg, h5⟩)⟩
  by_cases hie : i.cls = .effm
  · obtain ⟨wr, hwr⟩ := zfc (P := P) (zg2 hie (by simp) (by simp)) A
    have hq : (j.cls = .quiet ∨ j.cls = .total) ∨ j.cls = .ld ∨ j.cls = .eff := by
      rw [hie] at hp
      cases hc : j.cls <;> rw [hc] at hp <;> simp [zby] at hp <;> simp
    rcases hq with hq | hq | hq
    · obtain ⟨rd, hrd⟩ := zfW (P := P) hq A
      rw [hrd.iff] at h
      obtain ⟨v, h1, h2⟩ := h
      exact zR (fun vi σ1 h => (hrd.iff _ _).2 ⟨v, h1, h⟩) h2
    · obtain ⟨rd, hrd, hset⟩ := zhI (P := P) (zg2 hq (by simp) (by simp)) A
      rw [hrd.iff] at h
      obtain ⟨v, h4, h5⟩ := h
      rw [hwr] at h5 ⊢
      rcases h5 with ⟨hg, iM, old, ents, h1, h2, h3⟩ | ⟨hg, h3⟩
      · exact .inl ⟨hg, iM, old, ents, h1, h2, (hrd.iff _ _).2 ⟨v, (hset σ iM old ents v h2).2 h4, h3⟩⟩
      · exact .inr ⟨hg, (hrd.iff _ _).2 ⟨v, h4, h3⟩⟩
    · rw [hq, hie] at hp; simp [zby] at hp
  by_cases hj : j.cls = .eff
  · have hi : i.cls = .total := by
      rw [hj] at hp
      cases hc : i.cls <;> rw [hc] at hp <;> simp [zby] at hp <;> rfl
    obtain ⟨v, hv⟩ := zeC (P := P) hi A
    rw [hv]
    exact zR (fun vj σ1 h => (hv _ _).1 h) h
  by_cases hi : i.cls = .eff
  · have hq : j.cls = .quiet ∨ j.cls = .total := by
      rw [hi] at hp
      cases hc : j.cls <;> rw [hc] at hp <;> simp [zby] at hp <;> simp
    obtain ⟨rd, hrd⟩ := zfW (P := P) hq A
    rw [hrd.iff] at h
    obtain ⟨v, h1, h2⟩ := h
    exact zR (fun vi σ1 h => (hrd.iff _ _).2 ⟨v, h1, h⟩) h2
  obtain ⟨rdj, mkj, fj⟩ := zhJ (P := P) hj hje A
  obtain ⟨rdi, mki, fi⟩ := zhJ (P := P) hi hie A
  rw [fj.iff] at h
  rcases h with ⟨vj, h1, h2⟩ | ⟨sj, zj, oj, gj, h1, h2⟩
  · rw [fi.iff] at h2
    rcases h2 with ⟨vi, h3, h4⟩ | ⟨si, zi, oi, gi, h3, h4⟩
    · rw [fi.iff]
      exact .inl ⟨vi, h3, (fj.iff _ _).2 (.inl ⟨vj, h1, h4⟩)⟩
    · rw [fi.iff]
      exact .inr ⟨si, zi, oi, gi, h3, (fj.iff _ _).2 (.inl ⟨vj, fj.up _ _ _ _ _ h1, h4⟩)⟩
  · rw [fi.iff] at h2
    rcases h2 with ⟨vi, h3, h4⟩ | ⟨si, zi, oi, gi, h3, h4⟩
    · rw [fi.iff]
      exact .inl ⟨vi, fi.down _ _ _ _ _ hli h3, (fj.iff _ _).2 (.inr ⟨sj, zj, oj, gj, h1, h4⟩)⟩
    · have hne : sj ≠ si := fun e => by rw [fj.dst _ _ _ _ h1, fi.dst _ _ _ _ h3, e] at hs; simp [zed] at hs
      rw [fi.iff]
      refine .inr ⟨si, zi, oi, gi, h3, (fj.iff _ _).2 (.inr ⟨sj, zj, oj, gj, h1, ?_⟩)⟩
      have e1 : (σ.new sj zj oj).nx si = σ.nx si := by simp [St.new, Ne.symm hne]
      have e2 : (σ.new si zi oi).nx sj = σ.nx sj := by simp [St.new, hne]
      rw [e1, zmn hne] at h4
      rw [e2]
      exact h4
theorem zlB {j i : DOp} {A : zk} {σ : St} {X : zk → St → Prop} (hp : zby j.cls i.cls = true) (ha : zdF j i = true) (hli : i.cls = .total ∨ zbe i A σ)
    (h : zae P j A σ fun vj σ1 => zae P i (zD N A j.o.dst vj) σ1 fun vi σ2 => X (zD N (zD N A j.o.dst vj) i.o.dst vi) σ2) :
    zae P i A σ fun vi σ1 => zae P j (zD N A i.o.dst vi) σ1 fun vj σ2 => X (zD N (zD N A i.o.dst vi) j.o.dst vj) σ2 := by
  simp only [zdF, Bool.and_eq_true, Bool.not_eq_true'] at ha
  obtain ⟨⟨h1, h2⟩, h3⟩ := ha
  simp only [zjg h1] at h
  simp only [zjg h2]
  have := zkO hp h3 hli h
  refine zR (fun vi σ1 h => zR (fun vj σ2 h => ?_) h) this
  rw [← zlA h3]
  exact h
theorem zlC {d e : DOp} (hd : d.cls ≠ .eff) {A : zk} {σ : St} {k : AV → St → Prop} (hl : zbe e A σ) (hr : zdO d.o.dst e.reads = false) (h : zae P d A σ k) :
    zae P d A σ fun v σ1 => zbe e (zD N A d.o.dst v) σ1 ∧ k v σ1 := by
  by_cases he : d.cls = .effm
  · obtain ⟨wr, hwr⟩ := zfc (P := P) (zg2 he (by simp) (by simp)) A
    rw [hwr] at h ⊢
    rcases h with ⟨hg, iM, old, ents, h1, h2, h3⟩ | ⟨hg, h3⟩
    · exact .inl ⟨hg, iM, old, ents, h1, h2, zeD (fun t ht => hl t ht) hr zK, h3⟩
    · exact .inr ⟨hg, zeD hl hr zK, h3⟩
  obtain ⟨rd, mk, f⟩ := zhJ (P := P) hd he A
  rw [f.iff] at h ⊢
  rcases h with ⟨v, h1, h2⟩ | ⟨s, z, o, g, h1, h2⟩
  · exact .inl ⟨v, h1, zeD hl hr v, h2⟩
  · exact .inr ⟨s, z, o, g, h1, zeD (zmo hl _ _ _) hr _, h2⟩
theorem zfd {d : DOp} {L2 : List DOp} {K : zk → St → Prop} : ∀ (L1 : List DOp) {A : zk} {σ : St}, (∀ j ∈ L1, zby j.cls d.cls = true ∧ zdF j d = true) → (d.cls = .total ∨ zbe d A σ) →
    dops P N (L1 ++ d :: L2) A σ K → zae P d A σ fun v σ' => dops P N (L1 ++ L2) (zD N A d.o.dst v) σ' K
  | [], _, _, _, _, h => h
  | j :: L1, A, σ, hc, hl, h => by
    obtain ⟨hp, ha⟩ := hc j (by simp)
    have hr : zdO j.o.dst d.reads = false := by simp only [zdF, Bool.and_eq_true, Bool.not_eq_true'] at ha; exact ha.1.1
    simp only [List.cons_append, dops] at h ⊢
    refine zlB (X := fun A σ => dops P N (L1 ++ L2) A σ K) hp ha hl ?_
    rcases hl with hl | hl
    · exact zR (fun v σ1 h => zfd L1 (fun j hj => hc j (by simp [hj])) (.inl hl) h) h
    · by_cases hj : j.cls = .eff
      · have hd : d.cls = .total := by
          rw [hj] at hp
          cases hc : d.cls <;> rw [hc] at hp <;> simp [zby] at hp <;> rfl
        exact zR (fun v σ1 h => zfd L1 (fun j hj => hc j (by simp [hj])) (.inl hd) h) h
      · exact zR (fun v σ1 h => zfd L1 (fun j hj => hc j (by simp [hj])) (.inr h.1) h.2) (zlC hj hl hr h)
def zU (ops : List Oper) (rc : Oper → Bool) (i : Nat) : DOp := match ops[i]? with | some o => ⟨zbP ops o, rc o, o⟩ | none => ⟨none, false, default⟩
def zee (acc : List Nat) (o : Oper) : Nat := o.after.toList.foldl (fun b e => if Region.binds .any e then b ||| (2 ^ e.on ||| acc.getD e.on 0) else b) 0
def zaq (ops : List Oper) : List Nat := ops.foldl (fun acc o => acc ++ [zee acc o]) []
def zcZ (ops : List Oper) : Bool := ops.zipIdx.all fun (o, i) => o.after.toList.all fun e => !Region.binds .any e || decide (e.on < i)
def zad (ops : List Oper) (rc : Oper → Bool) (an : List Nat) : List Nat → Bool
  | [] => true
  | j :: l => l.all (fun i => (an.getD i 0).testBit j || (zby (zU ops rc j).cls (zU ops rc i).cls && zdF (zU ops rc j) (zU ops rc i))) && zad ops rc an l
def zjh (ops : List Oper) (ord : List Nat) (rc : Oper → Bool) : Bool :=
  zcZ ops && zad ops rc (zaq ops) ord && (decide ord.Nodup && ord.all fun i => decide (i < ops.length)) && ((List.range ops.length).all fun i => ord.contains i)
def zji (ops : List Oper) (listed : Array Bool) : Prop := ∀ k o, ops[k]? = some o → listed.getD k false = true → ∀ e ∈ o.after.toList, Region.binds .any e = true → listed.getD e.on false = true
def zhK (listed : Array Bool) (o : Oper) : Prop := ∀ e ∈ o.after.toList, Region.binds .any e = true → listed.getD e.on false = true
theorem zj6 {acc : List Nat} {o : Oper} {j : Nat} (h : (zee acc o).testBit j = true) : ∃ e ∈ o.after.toList, Region.binds .any e = true ∧ (j = e.on ∨ (acc.getD e.on 0).testBit j = true) := by
  unfold zee at h
  have key : ∀ (l : List Edge) (b : Nat), (l.foldl (fun b e => if Region.binds .any e then b ||| (2 ^ e.on ||| acc.getD e.on 0) else b) b).testBit j = true → b.testBit j = true ∨ ∃ e ∈ l, Region.binds .any e = true ∧ (j = e.on ∨ (acc.getD e.on 0).testBit j = true) := by
    intro l
    induction l with
    | nil => intro b h; exact .inl h
    | cons e l ih =>
      intro b h
      simp only [List.foldl_cons] at h
      rcases ih _ h with h | ⟨e', h1, h2⟩
      · split at h
        · rename_i hb
          simp only [Nat.testBit_or, Bool.or_eq_true, Nat.testBit_two_pow, decide_eq_true_eq] at h
          rcases h with h | h | h
          · exact .inl h
          · exact .inr ⟨e, by simp, hb, .inl h.symm⟩
          · exact .inr ⟨e, by simp, hb, .inr h⟩
        · exact .inl h
      · exact .inr ⟨e', by simp [h1], h2⟩
  rcases key _ _ h with h | h
  · simp at h
  · exact h
theorem zj7 (ops : List Oper) : ∀ acc, (ops.foldl (fun acc o => acc ++ [zee acc o]) acc).length = acc.length + ops.length := by
  induction ops with
  | nil => intro acc; rfl
  | cons o ops ih => intro acc; simp only [List.foldl_cons, ih]; simp; omega
theorem zg3 {ops : List Oper} {listed : Array Bool} (hc : zji ops listed) : ∀ (k : Nat) i o j, k ≤ ops.length → i < k → ops[i]? = some o → zhK listed o → ((zaq (ops.take k)).getD i 0).testBit j = true → listed.getD j false = true := by
  intro k
  induction k with
  | zero => intro i o j _ h; omega
  | succ k ih =>
    intro i o j hk hik hi hr hb
    have hq : ops[k]? = some ops[k] := List.getElem?_eq_getElem hk
    have hanc : zaq (ops.take (k + 1)) = zaq (ops.take k) ++ [zee (zaq (ops.take k)) ops[k]] := by
      rw [List.take_add_one, hq]
      unfold zaq
      rw [Option.toList_some, List.foldl_append, List.foldl_cons, List.foldl_nil]
    have hlen : (zaq (ops.take k)).length = k := by
      have := zj7 (ops.take k) []
      simp only [zaq, List.length_nil, Nat.zero_add] at this ⊢
      rw [this, List.length_take]; omega
    rw [hanc] at hb
    by_cases hlt : i < k
    · rw [List.getD_eq_getElem?_getD, List.getElem?_append_left (by omega), ← List.getD_eq_getElem?_getD] at hb
      exact ih i o j (by omega) hlt hi hr hb
    · have hi2 : i = k := by omega
      subst hi2
      have ho : ops[i] = o := by rw [hq] at hi; exact Option.some.inj hi
      rw [List.getD_eq_getElem?_getD, List.getElem?_append_right (by omega), hlen] at hb
      simp only [Nat.sub_self, List.getElem?_cons_zero, Option.getD_some] at hb
      rw [ho] at hb
      obtain ⟨e, h1, h2, h3⟩ := zj6 hb
      rcases h3 with rfl | h3
      · exact hr e h1 h2
      · have hon := hr e h1 h2
        have hlt2 : e.on < i := by
          rw [← hlen]
          by_cases hx : e.on < (zaq (ops.take i)).length
          · exact hx
          · rw [List.getD_eq_getElem?_getD, List.getElem?_eq_none (by omega)] at h3; simp at h3
        have ho2 : ops[e.on]? = some ops[e.on] := List.getElem?_eq_getElem (by omega)
        refine ih e.on _ j (by omega) hlt2 ho2 (fun e' he' hb' => ?_) h3
        refine hc e.on _ ho2 ?_ e' he' hb'
        have hsz : e.on < listed.size := by
          by_cases hx : e.on < listed.size
          · exact hx
          · simp [Array.getD, hx] at hon
        simpa [Array.getD, hsz] using hon
theorem zd2 {ops : List Oper} {rc : Oper → Bool} {an : List Nat} : ∀ {l : List Nat}, zad ops rc an l = true → ∀ (a : List Nat) j (b : List Nat) i (c : List Nat), l = a ++ j :: b ++ i :: c → (an.getD i 0).testBit j = true ∨ (zby (zU ops rc j).cls (zU ops rc i).cls = true ∧ zdF (zU ops rc j) (zU ops rc i) = true)
  | [], _, a, j, b, i, c, e => by simp at e
  | x :: l, h, a, j, b, i, c, e => by
    simp only [zad, Bool.and_eq_true] at h
    cases a with
    | nil =>
      simp only [List.nil_append, List.cons_append, List.cons.injEq] at e
      obtain ⟨rfl, e⟩ := e
      have := List.all_eq_true.1 h.1 i (by rw [e]; simp)
      simpa only [Bool.or_eq_true, Bool.and_eq_true] using this
    | cons y a =>
      simp only [List.cons_append, List.cons.injEq] at e
      exact zd2 h.2 a j b i c e.2
theorem zah {ops : List Oper} {rc : Oper → Bool} {an : List Nat} : ∀ {l l' : List Nat}, l'.Sublist l → zad ops rc an l = true → zad ops rc an l' = true
  | _, _, .slnil, h => h
  | _, _, .cons a s, h => by simp only [zad, Bool.and_eq_true] at h; exact zah s h.2
  | _, _, .cons_cons a s, h => by
    simp only [zad, Bool.and_eq_true] at h ⊢
    exact ⟨List.all_eq_true.2 fun i hi => List.all_eq_true.1 h.1 i (s.subset hi), zah s h.2⟩
theorem zeE {rc : Bool} {o : Oper} {A : zk} {σ : St} {K : zk → St → Prop} (h : za8 P rc o A σ fun v σ' => K (zD N A o.dst v) σ') : zgT P N o A σ K := by
  unfold za8 at h
  unfold zgT
  split
  · rename_i f args ts e
    simp only [e] at h
    cases rc with
    | true =>
      simp only [zfC] at h
      unfold zex
      split at h
      · rename_i n first caps e
        rw [e]
        rcases h with ⟨r, h1, h2⟩ | ⟨sz, ob, g, slot, h1, h2, h3⟩
        · exact h1.use h2
        · exact h1.use slot h3
      · exact h.elim
    | false => exact h
  · rename_i hn
    split at h
    · rename_i f args ts e; exact (hn _ _ _ e).elim
    · by_cases hl : ∃ t x, o.op = .load t x
      · obtain ⟨t, x, ho⟩ := hl
        rw [ho] at h ⊢
        cases rc with
        | false => exact h
        | true =>
          simp only [zfb, zgi, aop] at h ⊢
          cases hx : zat P (fun _ => none) t (zc A x) with
          | none => rw [hx] at h; simp [OK] at h
          | some v =>
            rw [hx] at h
            rw [zik (m' := σ.m) (fun i o h => by cases h) hx]
            exact h
      · rw [zgY fun t x e => hl ⟨t, x, e⟩] at h
        exact h
variable {r : Option Nat}
theorem zjj {d : DOp} {A : zk} {σ : St} {S : Ctx} {a : Act} (hS : SRel σ S) (hT : TRel N S A a) : zbe d A σ := fun t _ => AV.ids_mono (fun i hi => hS.kn i hi) _ (VRel.ids _ _ (hT.val t))
theorem zmp {ops : List Oper} {rc : Oper → Bool} {K : zk → St → Prop} {Q : Exit → Act → World → Prop} (hed : zcZ ops = true) :
    ∀ (fuel : Nat) (L : List Nat) (listed : Array Bool) {A : zk} {σ : St} {S : Ctx} {a : Act}, listed.size = ops.length → zji ops listed → (∀ i, i ∈ L ↔ i < ops.length ∧ listed.getD i true = false) → L.Nodup → L.length ≤ fuel → zad ops rc (zaq ops) L = true →
      dops P N (L.map (zU ops rc)) A σ K → SRel σ S → TRel N S A a →
      (∀ S' σ' A' a', Ev S S' → SRel σ' S' → TRel N S' A' a' → K A' σ' → Q .normal a' S'.w) → wpAnyIn (Fw r) 0 P .any ops.toArray Q fuel listed a S.w := by
  intro fuel
  have hdone : ∀ (L : List Nat) (listed : Array Bool), listed.size = ops.length → (∀ i, i ∈ L ↔ i < ops.length ∧ listed.getD i true = false) → Region.ready .any ops.toArray listed = [] → L = [] := by
    intro L listed hsz hL hr
    apply Classical.byContradiction
    intro hne
    have hex : ∃ i, i < ops.length ∧ listed.getD i true = false := by
      obtain ⟨x, hx⟩ := List.exists_mem_of_ne_nil L hne
      exact ⟨x, (hL x).1 hx⟩
    obtain ⟨i, ⟨h1, h2⟩, h3⟩ := least hex
    have : i ∈ Region.ready .any ops.toArray listed := by
      unfold Region.ready
      rw [List.mem_filter]
      refine ⟨by simpa using h1, ?_⟩
      have ho : ops[i]? = some ops[i] := List.getElem?_eq_getElem h1
      simp only [h2, List.getElem?_toArray, ho, Option.map_some, Option.getD_some, Bool.not_false, Bool.true_and]
      rw [Array.all_eq_true_iff_forall_mem]
      intro e he
      simp only [Bool.or_eq_true, Bool.not_eq_true']
      by_cases hb : Region.binds .any e = true
      · right
        have hd := List.all_eq_true.1 hed (ops[i], i) (by rw [List.mem_zipIdx_iff_getElem?]; exact ho)
        have hd2 := List.all_eq_true.1 hd e (by simpa using he)
        simp only [hb, Bool.not_true, Bool.false_or, decide_eq_true_eq] at hd2
        by_cases hx : listed.getD e.on true = false
        · have := h3 e.on ⟨by omega, hx⟩; omega
        · have hlt : e.on < listed.size := by omega
          simpa [Array.getD, hlt] using hx
      · left; simpa using hb
    rw [hr] at this
    simp at this
  induction fuel with
  | zero =>
    intro L listed A σ S a hsz hcl hL hnd hf hp h hS hT hQ
    have : L = [] := List.length_eq_zero_iff.1 (by omega)
    subst this
    refine ⟨?_, hQ S σ A a (Ev.refl S) hS hT h⟩
    unfold Region.ready
    rw [List.filter_eq_nil_iff]
    intro i hi
    have := (hL i).2
    simp at this hi
    simp [this hi]
  | succ fuel ih =>
    intro L listed A σ S a hsz hcl hL hnd hf hp h hS hT hQ
    refine ⟨fun hr => ?_, fun i hi => ?_⟩
    · have := hdone L listed hsz hL hr
      subst this
      exact hQ S σ A a (Ev.refl S) hS hT h
    · unfold Region.ready at hi
      rw [List.mem_filter] at hi
      obtain ⟨hi1, hi2⟩ := hi
      have hi1 : i < ops.length := by simpa using hi1
      have ho : ops[i]? = some ops[i] := List.getElem?_eq_getElem hi1
      simp only [List.getElem?_toArray, ho, Option.map_some, Option.getD_some, Bool.and_eq_true, Bool.not_eq_true'] at hi2
      obtain ⟨hnl, hall⟩ := hi2
      have hready : zhK listed ops[i] := fun e he hb => by
        rw [Array.all_eq_true_iff_forall_mem] at hall
        have := hall e (by simpa using he)
        simpa [hb] using this
      obtain ⟨L1, L2, rfl⟩ := List.append_of_mem ((hL i).2 ⟨hi1, hnl⟩)
      have hd : zU ops rc i = ⟨zbP ops ops[i], rc ops[i], ops[i]⟩ := by simp [zU, ho]
      have hcomp : ∀ j ∈ L1.map (zU ops rc), zby j.cls (zU ops rc i).cls = true ∧ zdF j (zU ops rc i) = true := by
        intro x hx
        obtain ⟨j, hj, rfl⟩ := List.mem_map.1 hx
        obtain ⟨l1, l2, rfl⟩ := List.append_of_mem hj
        rcases zd2 hp l1 j l2 i L2 (by simp) with hb | hb
        · exfalso
          have hlj : listed.getD j false = true := zg3 hcl ops.length i ops[i] j (Nat.le_refl _) hi1 ho hready (by rw [List.take_length]; exact hb)
          have := (hL j).1 (by simp)
          have hlt : j < listed.size := by omega
          have h1 := this.2
          simp [Array.getD, hlt] at h1 hlj
          rw [h1] at hlj; cases hlj
        · exact hb
      rw [List.map_append, List.map_cons] at h
      have hb := zfd (L1.map (zU ops rc)) hcomp (.inr (zjj hS hT)) h
      rw [hd] at hb
      have hnd' : (L1 ++ L2).Nodup := (List.nodup_append.1 hnd) |> fun q => by
        have := hnd
        rw [List.nodup_append] at this ⊢
        exact ⟨this.1, (List.nodup_cons.1 this.2.1).2, fun a ha b hb => this.2.2 a ha b (by simp [hb])⟩
      have hiL : i ∉ L1 ++ L2 := fun hx => by
        rw [List.nodup_append] at hnd
        rcases List.mem_append.1 hx with hx | hx
        · exact hnd.2.2 i hx i (by simp) rfl
        · exact (List.nodup_cons.1 hnd.2.1).1 hx
      have hget : ∀ k b, (listed.setIfInBounds i true).getD k b = if k = i then true else listed.getD k b := fun k b => by
        by_cases hk : k = i
        · subst hk; simp [Array.getD, hsz, hi1]
        · simp only [Array.getD, Array.size_setIfInBounds, hk, if_false]
          split
          · rename_i hlt
            simp only [Array.getInternal_eq_getElem]
            exact Array.getElem_setIfInBounds_ne (by simpa using hlt) (fun x => hk x.symm)
          · rfl
      have next : ∀ S' σ' A' a', Ev S S' → SRel σ' S' → TRel N S' A' a' → dops P N ((L1 ++ L2).map (zU ops rc)) A' σ' K → wpAnyIn (Fw r) 0 P .any ops.toArray Q fuel (listed.setIfInBounds i true) a' S'.w := by
        intro S' σ' A' a' k1 k2 k3 k4
        refine ih (L1 ++ L2) _ (by simpa using hsz) ?_ (fun x => ?_) hnd' (by simp at hf ⊢; omega) (zah (by simp) hp) k4 k2 k3 fun S2 σ2 A2 a2 q1 q2 q3 q4 => hQ S2 σ2 A2 a2 (k1.trans q1) q2 q3 q4
        · intro k o hk hl e he hbi
          rw [hget]
          split
          · rfl
          · rw [hget] at hl
            split at hl
            · rename_i e1; subst e1
              rw [ho] at hk
              injection hk with hk
              subst hk
              exact hready e he hbi
            · exact hcl k o hk hl e he hbi
        · rw [hget]
          by_cases hx : x = i
          · subst hx; simpa using hiL
          · rw [if_neg hx, ← hL x]
            simp [hx]
      unfold wpOpIn
      simp only [List.getElem?_toArray, ho]
      unfold zae at hb
      rcases zez hb hT with ⟨hw, hb⟩ | ⟨hw, hb⟩
      · rw [if_pos hw]
        exact ze9 (zeE (K := fun A' σ' => dops P N ((L1 ++ L2).map (zU ops rc)) A' σ' K) (by rw [List.map_append]; exact hb)) hS hT next
      · rw [if_neg (by simp [hw])]
        exact ⟨zbQ, next S σ _ _ (Ev.refl S) hS (hT.put (r := zK) (v := undef) ops[i].dst (by simp [zK, VRel])) (by rw [List.map_append]; exact hb)⟩
theorem zgk (S : Ctx) : Ev S { S with w := { S.w with drawn := S.w.drawn + 1 } } := ⟨Nat.le_refl _, fun _ _ _ => rfl, fun _ _ h => h, fun _ h => ⟨rfl, h⟩, fun _ _ => rfl, rfl, rfl, rfl, rfl⟩
theorem zcp : ∀ {l m : List Nat}, l.Nodup → (∀ x ∈ l, x ∈ m) → l.length ≤ m.length
  | [], _, _, _ => by simp
  | a :: l, m, h, hs => by
    have h' := List.nodup_cons.1 h
    have := zcp (m := m.erase a) h'.2 fun x hx => by
      have hne : x ≠ a := fun e => h'.1 (e ▸ hx)
      exact (List.mem_erase_of_ne hne).2 (hs x (by simp [hx]))
    have hl := List.length_erase_of_mem (hs a (by simp))
    have hpos : 0 < m.length := List.length_pos_of_mem (hs a (by simp))
    simp only [List.length_cons]
    omega
theorem zmq {K : Exit → zk → St → Prop} {A : zk} {σ : St} {id : Nat} {ops : List Oper} (ord : List Nat) (rc : Oper → Bool) (hm : P.follows .mixedOrders = true) (hc : zjh ops ord rc = true) (h : dops P N (ord.map (zU ops rc)) A σ (K .normal)) :
    AWP P r N (.region id ops.toArray true) K A σ := by
  intro S a hS hT
  simp only [zjh, Bool.and_eq_true, decide_eq_true_eq] at hc
  obtain ⟨⟨⟨h1, h2⟩, h3⟩, h4⟩ := hc
  refine wpIn_region_any hm ?_
  have hk := zgk S
  let S1 : Ctx := { S with w := { S.w with drawn := S.w.drawn + 1 } }
  have hS1 : SRel σ S1 := ⟨hS.kn, fun i o hi => by
    obtain ⟨g1, g2, g3, g4⟩ := hS.live i o hi
    exact ⟨g1, g2, g3, OBRel.mono hk g1 rfl g4⟩, hS.inj, hS.gl.ev hk⟩
  have hnd : ord.Nodup := h3.1
  have hmem : ∀ i, i ∈ ord ↔ i < ops.length := fun i =>
    ⟨fun hi => by simpa using List.all_eq_true.1 h3.2 i hi, fun hi => by simpa using List.all_eq_true.1 h4 i (List.mem_range.2 hi)⟩
  have hlen : ord.length ≤ ops.length := by
    have := List.nodup_range (n := ops.length)
    exact Nat.le_of_not_lt fun hlt => by
      have hsub : ∀ x ∈ ord, x ∈ List.range ops.length := fun x hx => List.mem_range.2 ((hmem x).1 hx)
      have := zcp hnd hsub
      simp at this
      omega
  have := zmp (P := P) (N := N) (r := r) (Q := zhH N S K) (rc := rc) h1 ops.length ord (Array.replicate ops.length false) (A := A) (σ := σ) (S := S1) (a := a) (by simp) ?_ ?_ hnd hlen h2 h hS1 (hT.mono hk) ?_
  · have e : ops.toArray.size = ops.length := by simp
    rw [e]; exact this
  · intro k o hk hl
    simp only [Array.getD] at hl
    split at hl
    · simp at hl
    · rename_i hlt
      have := (List.getElem?_eq_some_iff.1 hk).1
      simp at hlt
      omega
  · intro i
    rw [hmem]
    constructor
    · intro hi; exact ⟨hi, by simp [Array.getD, hi]⟩
    · exact fun hi => hi.1
  · intro S' σ' A' a' k1 k2 k3 k4
    exact ⟨S', A', σ', rfl, hk.trans k1, k2, k3, k4⟩
def zbt (ops : List Oper) (rc : Oper → Bool) (o : Oper) : DOp := ⟨zbP ops o, rc o, o⟩
def zhL (ops : List Oper) (rc : Oper → Bool) : Bool := zjh ops (List.range ops.length) rc
theorem zfe {K : Exit → zk → St → Prop} {A : zk} {σ : St} {id : Nat} {ops : List Oper} (rc : Oper → Bool) (hm : P.follows .mixedOrders = true) (hc : zhL ops rc = true) (h : dops P N (ops.map (zbt ops rc)) A σ (K .normal)) :
    AWP P r N (.region id ops.toArray true) K A σ := by
  refine zmq (List.range ops.length) rc hm hc ?_
  have : (List.range ops.length).map (zU ops rc) = ops.map (zbt ops rc) := by
    apply List.ext_getElem
    · simp
    · intro i h1 h2
      have hi : i < ops.length := by simpa using h1
      simp [zU, zbt, List.getElem?_eq_getElem hi]
  rw [this]; exact h
end
end Go.Proofs.YtckabcbfbpejkaaDoor.Av
namespace Go.Proofs.YtckabcbfbpejkaaDoor.Av
open Go
set_option linter.unusedSimpArgs false
set_option linter.unusedVariables false
def OKv (x : Option AV) (k : AV → Prop) : Prop := match x with | some v => k v | none => False
@[simp] theorem zqa (v : AV) (k : AV → Prop) : OKv (some v) k = k v := (rfl)
@[simp] theorem zqb (k : AV → Prop) : OKv none k = False := (rfl)
@[congr] theorem zpK {tk : Prop} (hx : (True ∧ True) = tk) {x y : Option AV} {k : AV → Prop} (h : x = y) : OKv x k = OKv y k := by rw [h]
def OKr (x : Option Res) (k : Res → Prop) : Prop := match x with | some v => k v | none => False
@[simp] theorem zgl (v : Res) (k : Res → Prop) : OKr (some v) k = k v := (rfl)
@[simp] theorem zqc (k : Res → Prop) : OKr none k = False := (rfl)
@[congr] theorem zpL {tk : Prop} (hx : (True ∧ True) = tk) {x y : Option Res} {k : Res → Prop} (h : x = y) : OKr x k = OKr y k := by rw [h]
theorem znG {x : Option AV} {slot : Nat} {σ : St} {k : AV → St → Prop} : OK (x.map .val) (Res.go slot σ k) = OKv x fun v => k v σ := by cases x <;> rfl
section
variable {P : Program} {N : Nat} {A A' : zk} {σ σ' : St} {K : zk → St → Prop} {rest : List DOp}
@[congr] theorem zpM {tk : Prop} (hx : (True ∧ True) = tk) {r : Option Nat} {c : Code} {K : Exit → zk → St → Prop} (h : A = A') : AWP P r N c K A σ = AWP P r N c K A' σ := by rw [h]
@[congr] theorem zoP {tk : Prop} (hx : (True ∧ True) = tk) {L : List DOp} (h : A = A') : dops P N L A σ K = dops P N L A' σ K := by rw [h]
@[congr] theorem znH {tk : Prop} (hx : (True ∧ True) = tk) {f : FuncId} {as as' : List AV} {K : AV → St → Prop} (h2 : as = as') : ACalls P f as σ K = ACalls P f as' σ K := by rw [h2]
@[congr] theorem zoj {tk : Prop} (hx : (True ∧ True) = tk) {K1 : zk → St → Prop} {K : Exit → zk → St → Prop} {e : Exit} (h : A = A') : zaX K1 K e A σ = zaX K1 K e A' σ := by rw [h]
@[congr] theorem znI {tk : Prop} (hx : (True ∧ True) = tk) {id : Nat} {K : Exit → zk → St → Prop} {e : Exit} (h : A = A') : zaU id K e A σ = zaU id K e A' σ := by rw [h]
@[congr] theorem znu {tk : Prop} (hx : (True ∧ True) = tk) {g : Option (Option Nat × Bool)} {y n : Prop} : zbd g A y n = zbd g A y n := (rfl)
@[simp ↓] theorem zqd : dops P N [] A σ K = K A σ := (rfl)
@[simp] theorem znJ {K1 : zk → St → Prop} {K : Exit → zk → St → Prop} : zaX K1 K .normal A σ = K1 A σ := (rfl)
@[simp] theorem zpN {K1 : zk → St → Prop} {K : Exit → zk → St → Prop} : zaX K1 K .ret A σ = K .ret A σ := (rfl)
@[simp] theorem zoQ {K1 : zk → St → Prop} {K : Exit → zk → St → Prop} {i : Nat} : zaX K1 K (.exit i) A σ = K (.exit i) A σ := (rfl)
@[simp] theorem znv {id : Nat} {K : Exit → zk → St → Prop} : zaU id K .normal A σ = K .normal A σ := (rfl)
@[simp] theorem zoR {id : Nat} {K : Exit → zk → St → Prop} : zaU id K .ret A σ = K .ret A σ := (rfl)
theorem zok {id i : Nat} {K : Exit → zk → St → Prop} : zaU id K (.exit i) A σ = if i = id then K .normal A σ else K (.exit i) A σ := (rfl)
@[simp] theorem zol {id : Nat} {K : Exit → zk → St → Prop} : zaU id K (.exit id) A σ = K .normal A σ := by simp [zaU]
@[simp] theorem znK {id i : Nat} {K : Exit → zk → St → Prop} (h : i ≠ id) : zaU id K (.exit i) A σ = K (.exit i) A σ := by simp [zaU, h]
@[simp] theorem zg4 {b : Bool} {y n : Prop} : zdN (.raw (.bool b)) y n = ((b = true → y) ∧ (b = false → n)) := (rfl)
@[congr] theorem zom {tk : Prop} (hx : (True ∧ True) = tk) {v v' : AV} {y n : Prop} (h : v = v') : zdN v y n = zdN v' y n := by rw [h]
variable {dst : Option Nat} {ty : TypeId} {pos : String} {aft : Array Edge} {gd : Option (Nat × Bool)} {rc : Bool} {x y c a b : Operand} {t f : Nat}
theorem zoS {t' : Nat} {b' : Bool} {o : Oper} : dops P N (⟨some (some t', b'), rc, o⟩ :: rest) A σ K = match A t' with
    | .raw (.bool c) => (c = b' → dops P N (⟨none, rc, o⟩ :: rest) A σ K) ∧ (c ≠ b' → dops P N rest (zD N A o.dst zK) σ K)
    | .raw (.tuple _) => dops P N rest (zD N A o.dst zK) σ K
    | _ => False := (rfl)
def guarded (v : AV) (b : Bool) (yes no : Prop) : Prop := match v with
    | .raw (.bool c) => (c = b → yes) ∧ (c ≠ b → no)
    | .raw (.tuple _) => no
    | _ => False
@[congr] theorem znw {tk : Prop} (hx : (True ∧ True) = tk) {v v' : AV} {b : Bool} {y n : Prop} (h : v = v') : guarded v b y n = guarded v' b y n := by rw [h]
@[simp ↓] theorem zqe {t' : Nat} {b' : Bool} {o : Oper} : dops P N (⟨some (some t', b'), rc, o⟩ :: rest) A σ K = guarded (A t') b' (dops P N (⟨none, rc, o⟩ :: rest) A σ K) (dops P N rest (zD N A o.dst zK) σ K) := (rfl)
@[simp] theorem znL {b : Bool} {y n : Prop} : guarded (.raw (.bool b)) b y n = y := by simp [guarded]
@[simp] theorem zoT {y n : Prop} : guarded (.raw (.bool true)) false y n = n := by simp [guarded]
@[simp] theorem zoU {y n : Prop} : guarded (.raw (.bool false)) true y n = n := by simp [guarded]
theorem zd {c b : Bool} {y n : Prop} (h1 : c = b → y) (h2 : c = !b → n) : guarded (.raw (.bool c)) b y n := ⟨h1, fun h => h2 (by cases c <;> cases b <;> simp_all)⟩
@[simp] theorem znx {b : Bool} {y n : Prop} : guarded zK b y n = n := (rfl)
@[simp ↓] theorem zqY : dops P N (⟨none, rc, ⟨dst, .move x, ty, pos, aft, gd⟩⟩ :: rest) A σ K = dops P N rest (zD N A dst (zc A x)) σ K := (rfl)
@[simp ↓] theorem zpO : dops P N (⟨none, rc, ⟨dst, .assign x, ty, pos, aft, gd⟩⟩ :: rest) A σ K = dops P N rest (zD N A dst (zc A x)) σ K := (rfl)
theorem zaD {x : Option AV} : OK (x.map .val) (Res.go (dst.getD 0) σ fun v σ' => dops P N rest (zD N A dst v) σ' K) = OKv x fun v => dops P N rest (zD N A dst v) σ K := znG
@[simp] theorem zrq {m : zE} : zgi false m = m := (rfl)
@[simp] theorem zrr {m : zE} : zgi true m = fun _ => none := (rfl)
@[simp ↓] theorem zqZ : dops P N (⟨none, rc, ⟨dst, .load t x, ty, pos, aft, gd⟩⟩ :: rest) A σ K = OKv (zat P (zgi rc σ.m) t (zc A x)) fun v => dops P N rest (zD N A dst v) σ K := zaD
@[simp ↓] theorem zqf {op : BinOp} {u : TypeId} : dops P N (⟨none, rc, ⟨dst, .binOp op t x y u, ty, pos, aft, gd⟩⟩ :: rest) A σ K = OKv (ze0 P op t (zbc y) (zc A x) (zc A y)) fun v => dops P N rest (zD N A dst v) σ K := zaD
@[simp ↓] theorem zq0 {op : UnOp} : dops P N (⟨none, rc, ⟨dst, .unOp op t x, ty, pos, aft, gd⟩⟩ :: rest) A σ K = OKv (ziT op (zc A x)) fun v => dops P N rest (zD N A dst v) σ K := zaD
@[simp ↓] theorem zoV {u : TypeId} : dops P N (⟨none, rc, ⟨dst, .convert t u x, ty, pos, aft, gd⟩⟩ :: rest) A σ K = OKv (zcW P t u (zc A x)) fun v => dops P N rest (zD N A dst v) σ K := zaD
@[simp ↓] theorem znM : dops P N (⟨none, rc, ⟨dst, .fieldAddr t x f, ty, pos, aft, gd⟩⟩ :: rest) A σ K = OKv (zb1 P t f (zc A x)) fun v => dops P N rest (zD N A dst v) σ K := zaD
@[simp ↓] theorem zqg : dops P N (⟨none, rc, ⟨dst, .field t x f, ty, pos, aft, gd⟩⟩ :: rest) A σ K = OKv (zd6 P t f (zc A x)) fun v => dops P N rest (zD N A dst v) σ K := zaD
@[simp ↓] theorem znN : dops P N (⟨none, rc, ⟨dst, .indexAddr t x y, ty, pos, aft, gd⟩⟩ :: rest) A σ K = OKv (zds P t (zc A x) (zc A y)) fun v => dops P N rest (zD N A dst v) σ K := zaD
@[simp ↓] theorem zqh : dops P N (⟨none, rc, ⟨dst, .index t x y, ty, pos, aft, gd⟩⟩ :: rest) A σ K = OKv (zer P t (zc A x) (zc A y)) fun v => dops P N rest (zD N A dst v) σ K := zaD
@[simp ↓] theorem zqi {lo hi : Option Operand} : dops P N (⟨none, rc, ⟨dst, .slice t x lo hi none, ty, pos, aft, gd⟩⟩ :: rest) A σ K = OKv (zdv P t (zc A x) (lo.map (zc A)) (hi.map (zc A))) fun v => dops P N rest (zD N A dst v) σ K := zaD
@[simp ↓] theorem zpP {lo hi : Option Operand} {z : Operand} : dops P N (⟨none, rc, ⟨dst, .slice t x lo hi (some z), ty, pos, aft, gd⟩⟩ :: rest) A σ K = OKv (zdt P t (zc A x) (lo.map (zc A)) (hi.map (zc A)) (zc A z)) fun v => dops P N rest (zD N A dst v) σ K := zaD
@[simp ↓] theorem zon {g : Fn} {first caps : Array Operand} : dops P N (⟨none, rc, ⟨dst, .makeFunc g first caps, ty, pos, aft, gd⟩⟩ :: rest) A σ K = dops P N rest (zD N A dst (.fn g (first.toList.map (zc A)) (caps.toList.map (zc A)))) σ K := (rfl)
def zjk (c a b : AV) : Option AV := match c with | .raw (.bool c) => some (if c = true then a else b) | _ => none
@[simp ↓] theorem zq1 : dops P N (⟨none, rc, ⟨dst, .pick c a b, ty, pos, aft, gd⟩⟩ :: rest) A σ K = OKv (zjk (zc A c) (zc A a) (zc A b)) fun v => dops P N rest (zD N A dst v) σ K := by
  show OK (match zc A c with | .raw (.bool c) => some (.val (if c = true then zc A a else zc A b)) | _ => none) _ = _
  unfold zjk
  split <;> rfl
def zeF (x : AV) : Option AV := match x with
  | .pp row off => some (.pp row off)
  | .rp i k off => some (.rp i k off)
  | _ => none
@[simp ↓] theorem zoo : dops P N (⟨none, rc, ⟨dst, .nilCheck x, ty, pos, aft, gd⟩⟩ :: rest) A σ K = OKv (zeF (zc A x)) fun v => dops P N rest (zD N A dst v) σ K := by
  show OK (match zc A x with | .pp row off => some (.val (.pp row off)) | .rp i k off => some (.val (.rp i k off)) | _ => none) _ = _
  unfold zeF
  split <;> rfl
def zff (t : AV) (ix : Nat) : Option AV := match t with | .tup vs => vs[ix]? | _ => none
@[simp ↓] theorem zoW {ix : Nat} : dops P N (⟨none, rc, ⟨dst, .extract x ix, ty, pos, aft, gd⟩⟩ :: rest) A σ K = OKv (zff (zc A x) ix) fun v => dops P N rest (zD N A dst v) σ K := by
  show OK (match zc A x with | .tup vs => (vs[ix]?).map .val | _ => none) _ = _
  unfold zff
  split
  · exact zaD
  · rfl
@[simp ↓] theorem zqj {ps : Array (Nat × Operand)} : dops P N (⟨none, rc, ⟨dst, .build t ps, ty, pos, aft, gd⟩⟩ :: rest) A σ K = OKv (zdx P t (ps.toList.map fun p => (p.1, zc A p.2))) fun v => dops P N rest (zD N A dst v) σ K := zaD
@[simp ↓] theorem zrs {u : TypeId} : dops P N (⟨none, rc, ⟨dst, .call { callee := .builtin .len, args := #[x], argTypes := #[u] }, ty, pos, aft, gd⟩⟩ :: rest) A σ K = OKv (zbN P σ.m u (zc A x)) fun v => dops P N rest (zD N A dst v) σ K := zaD
@[simp ↓] theorem zrt {u : TypeId} : dops P N (⟨none, rc, ⟨dst, .call { callee := .builtin .cap, args := #[x], argTypes := #[u] }, ty, pos, aft, gd⟩⟩ :: rest) A σ K = OKv (zgE P u (zc A x)) fun v => dops P N rest (zD N A dst v) σ K := zaD
@[simp ↓] theorem zru {ts : Array TypeId} : dops P N (⟨none, rc, ⟨dst, .call { callee := .builtin .max, args := #[x, y], argTypes := ts }, ty, pos, aft, gd⟩⟩ :: rest) A σ K = OKv (zgC (zc A x) (zc A y)) fun v => dops P N rest (zD N A dst v) σ K := zaD
@[simp ↓] theorem zq2 {z : Operand} {ts : Array TypeId} : dops P N (⟨none, rc, ⟨dst, .call { callee := .builtin .min, args := #[x, y, z], argTypes := ts }, ty, pos, aft, gd⟩⟩ :: rest) A σ K = OKv (zeZ (zc A x) (zc A y) (zc A z)) fun v => dops P N rest (zD N A dst v) σ K := zaD
@[simp ↓] theorem zrv {ts : Array TypeId} : dops P N (⟨none, rc, ⟨dst, .call { callee := .builtin .min, args := #[x, y], argTypes := ts }, ty, pos, aft, gd⟩⟩ :: rest) A σ K = OKv (zgD (zc A x) (zc A y)) fun v => dops P N rest (zD N A dst v) σ K := zaD
@[simp ↓] theorem zqk : dops P N (⟨none, rc, ⟨dst, .alloc t, ty, pos, aft, gd⟩⟩ :: rest) A σ K = OKr (zdl P t) (Res.go (dst.getD 0) σ fun v σ' => dops P N rest (zD N A dst v) σ' K) := (rfl)
@[simp ↓] theorem zrw : dops P N (⟨none, rc, ⟨dst, .box t x, ty, pos, aft, gd⟩⟩ :: rest) A σ K = OKr (zfy (zc A x)) (Res.go (dst.getD 0) σ fun v σ' => dops P N rest (zD N A dst v) σ' K) := (rfl)
@[simp ↓] theorem zny {n : Nat} {ps : Array (Nat × Operand)} : dops P N (⟨none, rc, ⟨dst, .buildSlice t n ps, ty, pos, aft, gd⟩⟩ :: rest) A σ K = OKr (zbn P t n (ps.toList.map fun p => (p.1, zc A p.2))) (Res.go (dst.getD 0) σ fun v σ' => dops P N rest (zD N A dst v) σ' K) := (rfl)
@[simp ↓] theorem zql : dops P N (⟨none, rc, ⟨dst, .store t x y, ty, pos, aft, gd⟩⟩ :: rest) A σ K = OKr (zd5 P σ.m t (zc A x) (zc A y)) (Res.go (dst.getD 0) σ fun v σ' => dops P N rest (zD N A dst v) σ' K) := (rfl)
@[simp ↓] theorem zpQ {u : TypeId} : dops P N (⟨none, rc, ⟨dst, .call { callee := .builtin .append, args := #[x, y], argTypes := #[u, u] }, ty, pos, aft, gd⟩⟩ :: rest) A σ K = OKr (zI P σ.m u (zc A x) (zc A y)) (Res.go (dst.getD 0) σ fun v σ' => dops P N rest (zD N A dst v) σ' K) := by
  show OK (if u = u then zI P σ.m u (zc A x) (zc A y) else zdy P u u (zc A x) (zc A y)) _ = _
  rw [if_pos rfl]; rfl
theorem zq3 {u u' : TypeId} (hne : u ≠ u') : dops P N (⟨none, rc, ⟨dst, .call { callee := .builtin .append, args := #[x, y], argTypes := #[u, u'] }, ty, pos, aft, gd⟩⟩ :: rest) A σ K = OKr (zdy P u u' (zc A x) (zc A y)) (Res.go (dst.getD 0) σ fun v σ' => dops P N rest (zD N A dst v) σ' K) := by
  show OK (if u = u' then zI P σ.m u (zc A x) (zc A y) else zdy P u u' (zc A x) (zc A y)) _ = _
  rw [if_neg hne]; rfl
@[congr] theorem znO {tk : Prop} (hx : (True ∧ True) = tk) {slot : Nat} {k : AV → St → Prop} {r r' : Res} (h : r = r') : Res.go slot σ k r = Res.go slot σ k r' := by rw [h]
@[simp] theorem znP {slot : Nat} {k : AV → St → Prop} {a : AV} : Res.go slot σ k (.val a) = k a σ := (rfl)
@[simp] theorem zoX {slot sz : Nat} {k : AV → St → Prop} {es : List AV} {v : Id → AV} : Res.go slot σ k (.mk sz es v) = k (v ⟨slot, σ.nx slot, sz⟩) (σ.new slot sz (.buf es)) := (rfl)
@[simp] theorem zsa {slot : Nat} {k : AV → St → Prop} {i : Id} {es : List AV} : Res.go slot σ k (.wr i es) = k zK (σ.set i (.buf es)) := (rfl)
@[simp] theorem zoY {slot : Nat} {k : AV → St → Prop} {old : Id} {es : List AV} {v : Id → AV} : Res.go slot σ k (.mv old es v) = k (v ⟨slot, σ.nx slot, old.sz⟩) ((σ.del old).new slot old.sz (.buf es)) := (rfl)
@[simp] theorem zrx {slot : Nat} {k : AV → St → Prop} {v : Id → AV} : Res.go slot σ k (.mkm v) = k (v ⟨slot, σ.nx slot, 0⟩) (σ.new slot 0 (.map [])) := (rfl)
@[simp] theorem zry {slot : Nat} {k : AV → St → Prop} {i : Id} {ents : List (Value × AV)} : Res.go slot σ k (.wrm i ents) = k zK (σ.set i (.map ents)) := (rfl)
@[simp] theorem zoZ {t : Nat} : zbc (.tmp t) = none := (rfl)
@[simp] theorem zo0 {k : IntKind} {n : Int} : zbc (.const (.int k n)) = none := (rfl)
@[simp] theorem zop {b : Bool} : zbc (.const (.bool b)) = none := (rfl)
@[simp] theorem zo1 {b : ByteArray} : zbc (.const (.string b)) = none := (rfl)
@[simp] theorem zo2 {p : Option Addr} : zbc (.const (.pointer p)) = none := (rfl)
@[simp] theorem znQ : zbc (.const .nilIface) = some true := (rfl)
@[simp] theorem zo3 {p : Option Nat} : zbc (.const (.map p)) = none := (rfl)
@[simp] theorem zo4 {cs : Array Value} : zbc (.const (.agg cs)) = none := (rfl)
@[simp] theorem zoq {f : FuncId} : zbc (.func f) = none := (rfl)
@[simp] theorem zo5 : zbc (.const (.slice none 0 0)) = some false := (rfl)
@[simp] theorem zqm {op : BinOp} {a b : AV} : ze0 P op t none a b = z6 P op t a b := (rfl)
@[simp] theorem zqn {op : BinOp} {a b : AV} : ze0 P op t (some false) a b = zd8 P op t a := (rfl)
@[simp] theorem zqo {op : BinOp} {a b : AV} : ze0 P op t (some true) a b = zd9 P op t a := (rfl)
@[simp] theorem zrz {slot : Nat} {k : AV → St → Prop} {i : Id} {es : List AV} {v : AV} : Res.go slot σ k (.wrv i es v) = k v (σ.set i (.buf es)) := (rfl)
@[simp] theorem zrA {slot sz : Nat} {k : AV → St → Prop} {o : Ob} {v : Id → AV} : Res.go slot σ k (.mko sz o v) = k (v ⟨slot, σ.nx slot, sz⟩) (σ.new slot sz o) := (rfl)
@[simp] theorem zrB {slot : Nat} {k : AV → St → Prop} {i : Id} {o : Ob} {v : AV} : Res.go slot σ k (.wro i o v) = k v (σ.set i o) := (rfl)
@[simp ↓] theorem zqp {u : TypeId} : dops P N (⟨none, rc, ⟨dst, .call { callee := .builtin .clear, args := #[x], argTypes := #[u] }, ty, pos, aft, gd⟩⟩ :: rest) A σ K = OKr (zdm P σ.m u (zc A x)) (Res.go (dst.getD 0) σ fun v σ' => dops P N rest (zD N A dst v) σ' K) := (rfl)
@[simp ↓] theorem zq4 {u : TypeId} : dops P N (⟨none, rc, ⟨dst, .call { callee := .builtin .copy, args := #[x, y], argTypes := #[u, t] }, ty, pos, aft, gd⟩⟩ :: rest) A σ K = OKr (zgF P σ.m u (zc A x) (zc A y)) (Res.go (dst.getD 0) σ fun v σ' => dops P N rest (zD N A dst v) σ' K) := (rfl)
@[simp ↓] theorem zo6 : dops P N (⟨none, rc, ⟨dst, .makeMap t none, ty, pos, aft, gd⟩⟩ :: rest) A σ K = dops P N rest (zD N A dst (.mp ⟨dst.getD 0, σ.nx (dst.getD 0), 0⟩)) (σ.new (dst.getD 0) 0 (.map [])) K := (rfl)
@[simp ↓] theorem zpR {ok : Bool} : dops P N (⟨none, rc, ⟨dst, .lookup t x y ok, ty, pos, aft, gd⟩⟩ :: rest) A σ K = OKv (zaS P σ.m t (zc A x) (zc A y) ok) fun v => dops P N rest (zD N A dst v) σ K := zaD
@[simp ↓] theorem znR {z : Operand} : dops P N (⟨none, rc, ⟨dst, .mapUpdate t x y z, ty, pos, aft, gd⟩⟩ :: rest) A σ K = OKr (zaI P σ.m t (zc A x) (zc A y) (zc A z)) (Res.go (dst.getD 0) σ fun v σ' => dops P N rest (zD N A dst v) σ' K) := (rfl)
def zfD (P : Program) (rc : Bool) (dst : Option Nat) (f : AV) (args : List AV) (σ : St) (k : AV → St → Prop) : Prop := match rc with | true => zfC P dst f args σ k | false => zex P f args σ k
@[congr] theorem zor {tk : Prop} (hx : (True ∧ True) = tk) {b b' : Bool} {dst : Option Nat} {f f' : AV} {as as' : List AV} {K : AV → St → Prop} (h : f = f') (h2 : as = as') (h3 : b = b') : zfD P b dst f as σ K = zfD P b' dst f' as' σ K := by rw [h, h2, h3]
@[simp ↓] theorem zq5 {args : Array Operand} {ts : Array TypeId} : dops P N (⟨none, rc, ⟨dst, .call { callee := .value x, args := args, argTypes := ts }, ty, pos, aft, gd⟩⟩ :: rest) A σ K = zfD P rc dst (zc A x) (args.toList.map (zc A)) σ fun v σ' => dops P N rest (zD N A dst v) σ' K := by cases rc <;> rfl
@[simp] theorem zqq {f : FuncId} {first caps args : List AV} {k : AV → St → Prop} : zfD P false dst (.fn (.func f) first caps) args σ k = ACalls P f (first ++ args ++ caps) σ k := (rfl)
@[simp] theorem zos {b : Nat} {args : List AV} {k : AV → St → Prop} : zfD P false dst (.fn (.yield b) [] []) args σ k = YK P b args σ k := (rfl)
@[congr] theorem zqr {tk : Prop} (hx : (True ∧ True) = tk) {b : Nat} {as as' : List AV} {K : AV → St → Prop} (h2 : as = as') : YK P b as σ K = YK P b as' σ K := by rw [h2]
@[simp] theorem zpS {f : FuncId} {first caps args : List AV} {k : AV → St → Prop} : zfD P true dst (.fn (.func f) first caps) args σ k = ((∃ r, RCalls P σ.m f (first ++ args ++ caps) r ∧ k r σ) ∨ ∃ sz ob g slot, MCalls P f (first ++ args ++ caps) sz ob g ∧ dst = some slot ∧ k (g ⟨slot, σ.nx slot, sz⟩) (σ.new slot sz ob)) := (rfl)
@[simp] theorem zpT {d : Nat} {v : AV} : zD N A (some d) v = put N A d v := (rfl)
@[simp] theorem zpU {v : AV} : zD N A none v = A := (rfl)
@[simp] theorem zrC {d : Nat} {v : AV} (h : d < N) : put N A d v d = v := by simp [put, h]
@[simp] theorem zrD {d t : Nat} {v : AV} (h : t ≠ d) : put N A d v t = A t := by simp [put, h]
@[simp] theorem zpV {t : Nat} : zc A (.tmp t) = A t := (rfl)
@[simp] theorem zot {v : Value} : zc A (.const v) = zx v := (rfl)
@[simp] theorem zo7 {f : FuncId} : zc A (.func f) = .fn (.func f) [] [] := (rfl)
@[simp] theorem zou {k : IntKind} {n : Int} : zx (.int k n) = .raw (.int k n) := (rfl)
@[simp] theorem znS {b : Bool} : zx (.bool b) = .raw (.bool b) := (rfl)
@[simp] theorem zm7 {b : ByteArray} : zx (.string b) = .raw (.string b) := (rfl)
@[simp] theorem zmr : zx (.slice none 0 0) = .sl 0 [] true := (rfl)
@[simp] theorem zmU {p : Option Addr} : zx (.pointer p) = .raw (.pointer p) := (rfl)
@[simp] theorem zmV : zx .nilFunc = .raw .nilFunc := (rfl)
@[simp] theorem zms : zx .nilIface = .raw .nilIface := (rfl)
@[simp] theorem zov {p : Option Nat} : zx (.map p) = .raw (.map p) := (rfl)
@[simp] theorem zow {cs : Array Value} : zx (.agg cs) = .agg (cs.toList.map zW) := (rfl)
@[simp] theorem znz {k : IntKind} {n : Int} : zW (.int k n) = .raw (.int k n) := (rfl)
@[simp] theorem zm8 {b : Bool} : zW (.bool b) = .raw (.bool b) := (rfl)
@[simp] theorem zmt {b : ByteArray} : zW (.string b) = .raw (.string b) := (rfl)
@[simp] theorem zlD : zW (.slice none 0 0) = .sl 0 [] true := (rfl)
@[simp] theorem zl7 {p : Option Addr} : zW (.pointer p) = .raw (.pointer p) := (rfl)
@[simp] theorem zl8 : zW .nilFunc = .raw .nilFunc := (rfl)
@[simp] theorem zlE : zW .nilIface = .raw .nilIface := (rfl)
@[simp] theorem znA {p : Option Nat} : zW (.map p) = .raw (.map p) := (rfl)
@[simp] theorem znT {a : AV} {l : List AV} : zbp (a :: l) 0 = a := (rfl)
@[simp] theorem znU {a : AV} {l : List AV} {n : Nat} : zbp (a :: l) (n + 1) = zbp l n := by simp [zbp]
@[simp] theorem zox {n : Nat} : zbp [] n = zK := (rfl)
@[simp] theorem znV {cs : List AV} : AV.cells (.agg cs) = cs := (rfl)
@[simp] theorem zoy {cs vs : List AV} {off : Nat} : setPart (.agg cs) off vs = .agg (cs.take off ++ vs ++ cs.drop (off + vs.length)) := (rfl)
@[simp] theorem zoz {v : Value} {vs : List AV} {off : Nat} : setPart (.raw v) off vs = zbM (.raw v) vs := (rfl)
@[simp] theorem zo8 {z : Nat} {es : List AV} {b : Bool} {vs : List AV} {off : Nat} : setPart (.sl z es b) off vs = zbM (.sl z es b) vs := (rfl)
@[simp] theorem zo9 {i : Id} {o n : Nat} {vs : List AV} {off : Nat} : setPart (.rs i o n) off vs = zbM (.rs i o n) vs := (rfl)
@[simp] theorem zpa {i : Id} {o n : Nat} {vs : List AV} {off : Nat} : setPart (.rp i o n) off vs = zbM (.rp i o n) vs := (rfl)
@[simp] theorem zpb {r : List AV} {o : Nat} {vs : List AV} {off : Nat} : setPart (.pp r o) off vs = zbM (.pp r o) vs := (rfl)
@[simp] theorem zpc {f : Fn} {a b vs : List AV} {off : Nat} : setPart (.fn f a b) off vs = zbM (.fn f a b) vs := (rfl)
@[simp] theorem zpd {i : Id} {vs : List AV} {off : Nat} : setPart (.mp i) off vs = zbM (.mp i) vs := (rfl)
@[simp] theorem zoA {t : TypeId} {a : AV} {vs : List AV} {off : Nat} : setPart (.ifc t a) off vs = zbM (.ifc t a) vs := (rfl)
@[simp] theorem znW {v : Value} : AV.cells (.raw v) = [.raw v] := (rfl)
@[simp] theorem zoB {r : List AV} {o : Nat} : AV.cells (.pp r o) = [.pp r o] := (rfl)
@[simp] theorem zoC {i : Id} {k o : Nat} : AV.cells (.rp i k o) = [.rp i k o] := (rfl)
@[simp] theorem zoD {z : Nat} {es : List AV} {b : Bool} : AV.cells (.sl z es b) = [.sl z es b] := (rfl)
@[simp] theorem zoE {i : Id} {o n : Nat} : AV.cells (.rs i o n) = [.rs i o n] := (rfl)
@[simp] theorem zoF {f : Fn} {a b : List AV} : AV.cells (.fn f a b) = [.fn f a b] := (rfl)
@[simp] theorem zoG {i : Id} : AV.cells (.mp i) = [.mp i] := (rfl)
@[simp] theorem znX {t : TypeId} {a : AV} : AV.cells (.ifc t a) = [.ifc t a] := (rfl)
@[simp] theorem zoH {k : IntKind} {n : Int} : (Value.int k n).oneCell' = true := (rfl)
@[simp] theorem znY {b : Bool} : (Value.bool b).oneCell' = true := (rfl)
@[simp] theorem zm9 {b : ByteArray} : (Value.string b).oneCell' = true := (rfl)
@[simp] theorem zmW {b : Option Addr} : (Value.pointer b).oneCell' = true := (rfl)
@[simp] theorem zmX : (Value.nilFunc).oneCell' = true := (rfl)
@[simp] theorem zmu : (Value.nilIface).oneCell' = true := (rfl)
@[simp] theorem zoI {b : Option Nat} : (Value.map b).oneCell' = true := (rfl)
theorem zg5 {r : Option Nat} {K : Exit → zk → St → Prop} {c : Operand} {x y : Code} (h : zc A c = .raw (.bool true)) (hx : AWP P r N x K A σ) : AWP P r N (.cond c x y) K A σ := zge (by rw [h, zg4]; exact ⟨fun _ => hx, fun e => Bool.noConfusion e⟩)
theorem zg6 {r : Option Nat} {K : Exit → zk → St → Prop} {c : Operand} {x y : Code} (h : zc A c = .raw (.bool false)) (hy : AWP P r N y K A σ) : AWP P r N (.cond c x y) K A σ := zge (by rw [h, zg4]; exact ⟨fun e => Bool.noConfusion e, fun _ => hy⟩)
def zfg (A : zk) : Option Oper → AV
  | some o => match o.dst with | some t => A t | none => zK
  | none => zK
theorem znZ {ops : List Oper} {o : Oper} {j : Nat} {b' : Bool} : dops P N (⟨some ((ops[j]?).bind (·.dst), b'), rc, o⟩ :: rest) A σ K = guarded (zfg A ops[j]?) b' (dops P N (⟨none, rc, o⟩ :: rest) A σ K) (dops P N rest (zD N A o.dst zK) σ K) := by
  cases ops[j]? with
  | none => rfl
  | some q => cases hq : q.dst with
    | none => simp only [Option.bind_some, hq, zfg]; rfl
    | some t => simp only [Option.bind_some, hq, zfg]; rfl
@[simp ↓] theorem zn0 {ops : List Oper} {rcs : Oper → Bool} : dops P N (List.map (zbt ops rcs) []) A σ K = K A σ := (rfl)
@[simp ↓] theorem znB {ops l : List Oper} {rcs : Oper → Bool} {op : Op} : dops P N (List.map (zbt ops rcs) (⟨dst, op, ty, pos, aft, none⟩ :: l)) A σ K = dops P N (⟨none, rcs ⟨dst, op, ty, pos, aft, none⟩, ⟨dst, op, ty, pos, aft, none⟩⟩ :: List.map (zbt ops rcs) l) A σ K := (rfl)
@[simp ↓] theorem zna {ops l : List Oper} {rcs : Oper → Bool} {op : Op} {j : Nat} {b' : Bool} : dops P N (List.map (zbt ops rcs) (⟨dst, op, ty, pos, aft, some (j, b')⟩ :: l)) A σ K =
    guarded (zfg A ops[j]?) b' (dops P N (⟨none, rcs ⟨dst, op, ty, pos, aft, some (j, b')⟩, ⟨dst, op, ty, pos, aft, some (j, b')⟩⟩ :: List.map (zbt ops rcs) l) A σ K) (dops P N (List.map (zbt ops rcs) l) (zD N A dst zK) σ K) := znZ
@[simp] theorem zoJ {o : Oper} : zfg A (some o) = match o.dst with | some t => A t | none => zK := (rfl)
theorem zr {r : Option Nat} {K : Exit → zk → St → Prop} {id : Nat} {ops : List Oper} (h : dops P N (ops.map (zbt ops fun _ => false)) A σ (K .normal)) : AWP P r N (.region id ops.toArray false) K A σ := by
  refine zkH ?_
  unfold znF
  have key : ∀ (l : List Oper) A σ, dops P N (l.map (zbt ops fun _ => false)) A σ (K .normal) → zgf P N (l.map fun o => (zbP ops o, o)) A σ (K .normal) := by
    intro l
    induction l with
    | nil => intro A σ h; exact h
    | cons o l ih =>
      intro A σ h
      simp only [List.map_cons, dops, zgf] at h ⊢
      unfold zae at h
      exact zfV h (fun h => zeE (zii (fun v σ h => ih _ _ h) h)) (ih _ _)
  exact key ops A σ h
theorem zcP (m : zE) (a : AV) : zz m m a = a := by
  cases a <;> try rfl
  · rename_i i k off
    simp only [zz]
    cases m i <;> rfl
  · rename_i i k off
    simp only [zz]
    cases m i <;> rfl
theorem zdG (m : zE) (a : AV) : z7 m m a = a := by
  cases a <;> simp only [z7, zcP]
  · rename_i cs; congr 1; induction cs with
    | nil => rfl
    | cons a l ih => simp [zcP, ih]
  · rename_i cs; congr 1; induction cs with
    | nil => rfl
    | cons a l ih =>
      simp only [List.map_cons, ih]
      congr 1
      cases a <;> simp only [zcP]
      rename_i cs; congr 1; induction cs with
      | nil => rfl
      | cons a l ih => simp [zcP, ih]
attribute [simp] zdv zem zen zl9 ziQ zcV zdt zcj zds zer zdx zdr zel zf9 zb9 zd8 zd9 zhG zat zb1 zd6 zcL zfA ziL z6 zeY zfB zgz zeo zhF za2 ziT zcW zbN zgC zgD zeZ zjk zeF zff zfz zcF za1 zcU zdl zfy zd5 zbM zbn zcG zI zbC zdY zdy zgE zb6 zak zd7 zgA zJ cellOK zau zbG zjb zm
theorem zy {fn : Func} {rv : AV} {e : Exit} (he : e = .normal ∨ e = .ret) (h : zau P σ.m A fn.results = some rv) : zdE P fn σ rv e A σ :=
  ⟨he, fun _ => Nat.le_refl _, fun _ _ => rfl, rv, h, by rw [zdG]; exact Weaker.refl _⟩
theorem zM {f : FuncId} {fn : Func} {c : Code} {args : List AV} {rv : AV} (hf : P.funcs[f]? = some fn) (hb : fn.body = some c) (hN : fn.ntmps = N) (hname : (fn.name == "runtime.NumGoroutine") = false) (hn : args.length ≤ N) (hr : noIds rv)
    (h : ∀ σ, AWP P none N c (zdE P fn σ rv) (zbp args) σ) : PCalls P f args rv := by
  subst hN; exact zj2 hf hb (zbH hf hname hb) hn hr h
end
theorem zS {n : Int} (h : -9223372036854775808 ≤ n) (h2 : n < 9223372036854775808) : IntKind.i64.wrap n = n := by
  show (if (true && decide (n % 18446744073709551616 ≥ 9223372036854775808)) = true then n % 18446744073709551616 - 18446744073709551616 else n % 18446744073709551616) = n
  by_cases hc : n % 18446744073709551616 ≥ 9223372036854775808
  · rw [if_pos (by simpa using hc)]; omega
  · rw [if_neg (by simpa using hc)]; omega
theorem zef {n : Int} (h : 0 ≤ n) (h2 : n < 4294967296) : IntKind.u32.wrap n = n := by
  simp only [IntKind.wrap, IntKind.bits, IntKind.signed, Bool.false_and, Bool.false_eq_true, if_false]
  omega
theorem znb {n : Int} (h : 0 ≤ n) (h2 : n < 18446744073709551616) : IntKind.u64.wrap n = n := by
  simp only [IntKind.wrap, IntKind.bits, IntKind.signed, Bool.false_and, Bool.false_eq_true, if_false]
  omega
theorem zrE {n : Int} (h : 0 ≤ n) (h2 : n < 256) : IntKind.u8.wrap n = n := by
  simp only [IntKind.wrap, IntKind.bits, IntKind.signed, Bool.false_and, Bool.false_eq_true, if_false]
  omega
end Go.Proofs.YtckabcbfbpejkaaDoor.Av
namespace Go.Proofs.YtckabcbfbpejkaaDoor.Av
open Go
set_option linter.unusedSimpArgs false
set_option linter.unusedVariables false
theorem SRelM.pushO {m : Id → Option Ob} {S : Ctx} (h : SRelM m S) {w' : World} {o : Obj} (hw : zci S.w w' o) {i : Id} (hi : ¬ S.K i)
    {ob : Ob} (hob : OBRel (S.push w' i) i ob) : SRelM (fun j => if j = i then some ob else m j) (S.push w' i) where
  live := fun j o hj => by
    have k := Ev.push hw hi
    by_cases e : j = i
    · subst e
      simp only [if_true, Option.some.injEq] at hj
      subst hj
      have hmu : (S.push w' j).mu j = S.w.heap.size := by simp [Ctx.push]
      refine ⟨.inr rfl, ?_, .inr hmu, hob⟩
      rw [hmu]; show _ < w'.heap.size; rw [hw.1]; simp
    · simp only [e, if_false] at hj
      obtain ⟨h1, h2, h3, h4⟩ := h.live j o hj
      have hmu : (S.push w' i).mu j = S.mu j := by simp [Ctx.push, e]
      refine ⟨.inl h1, ?_, ?_, OBRel.mono k h1 (zas hw.1 h2) h4⟩
      · rw [hmu]; exact Nat.lt_of_lt_of_le h2 k.size
      · rw [hmu]; exact .inl h3
  inj := fun j j' hj hj' he => by
    have old : ∀ j, j ≠ i → (if j = i then some ob else m j) ≠ none → S.mu j < S.w.heap.size := fun j e hj => by
      simp only [e, if_false] at hj
      obtain ⟨o, ho⟩ := Option.ne_none_iff_exists'.1 hj
      exact (h.live j o ho).2.1
    by_cases e : j = i
    · by_cases e' : j' = i
      · rw [e, e']
      · have := old j' e' hj'
        simp [Ctx.push, e, e'] at he
        omega
    · by_cases e' : j' = i
      · have := old j e hj
        simp [Ctx.push, e, e'] at he
        omega
      · simp [Ctx.push, e, e'] at he
        simp only [e, if_false] at hj
        simp only [e', if_false] at hj'
        exact h.inj j j' hj hj' he
section
variable {P : Program} {N : Nat} {A : zk} {σ : St}
def Ctx.lay (S : Ctx) (w' : World) : Ctx := { S with w := w', O := fun b => S.O b ∧ b < S.w.heap.size }
theorem zg7 {S : Ctx} {w' : World} {o : Obj} (hw : zci S.w w' o) : Ev S (S.lay w') where
  size := by show S.w.heap.size ≤ w'.heap.size; rw [hw.1]; simp
  heap := fun b hb _ => zas hw.1 hb
  O := fun b _ h => h.1
  mu := fun j hj => ⟨rfl, hj⟩
  cells := fun b hb => zbx (zas hw.1 hb)
  lim := rfl
  io := hw.2
theorem znc {S : Ctx} (h : SRel σ S) {w' : World} {o : Obj} (hw : zci S.w w' o) : SRel σ (S.lay w') :=
  ⟨h.kn, fun i o hi => by
    obtain ⟨h1, h2, h3, h4⟩ := h.live i o hi
    exact ⟨h1, Nat.lt_of_lt_of_le h2 (zg7 hw).size, ⟨h3, h2⟩, OBRel.mono (zg7 hw) h1 (zas hw.1 h2) h4⟩, h.inj, h.gl.ev (zg7 hw)⟩
theorem ziD {K : Exit → zk → St → Prop} {g : Operand} {ps : Array Tmp} {as bd : Code} {f : FuncId} {caps : List AV} (hg : zc A g = .fn (.func f) [] caps)
    (h : ∀ b, ACalls P f (.fn (.yield b) [] [] :: caps) (σ.new 0 0 (.loop b ps as bd N A .ready none)) fun _ σ' =>
      ∃ st pd, σ'.m ⟨0, σ.nx 0, 0⟩ = some (.loop b ps as bd N A st pd) ∧ st ≠ .busy ∧ (pd = none → K .normal A (σ'.del ⟨0, σ.nx 0, 0⟩)) ∧ (∀ c, pd = some c → AWP P none N c K A (σ'.del ⟨0, σ.nx 0, 0⟩))) :
    AWP P none N (.rangeFunc g ps as bd) K A σ := by
  intro S a hS hT
  refine wpIn_rangeFunc ?_
  intro fn hfn
  have hv := hT.eval g
  rw [hg] at hv
  simp only [VRel, LRel] at hv
  obtain ⟨l, m, hge, h1, h2⟩ := hv
  have hl : l = #[] := by simpa using h1
  subst hl
  let w1 := S.w.alloc (.deferred (some []))
  let rec0 : Loop := { state := .ready, pending := none, fn := fn, tmps := a.tmps, params := ps, assign := as, body := bd, defers := S.w.heap.size }
  let w2 := w1.alloc (.loop rec0)
  have hw1 : w1.heap = S.w.heap.push (.deferred (some [])) := rfl
  have hw2 : w2.heap = w1.heap.push (.loop rec0) := rfl
  have hsz1 : w1.heap.size = S.w.heap.size + 1 := by rw [hw1]; simp
  let i : Id := ⟨0, σ.nx 0, 0⟩
  let S1 := S.lay w1
  let S2 := S1.push w2 i
  have k1 : Ev S S1 := zg7 ⟨hw1, rfl, rfl, rfl⟩
  have hS1 : SRel σ S1 := znc hS ⟨hw1, rfl, rfl, rfl⟩
  have hiK : ¬ S1.K i := fun hK => by have := hS1.kn i hK; simp [i] at this
  have k2 : Ev S1 S2 := Ev.push (S := S1) (w' := w2) (o := .loop rec0) ⟨hw2, rfl, rfl, rfl⟩ hiK
  have hT1 : TRel N S2 A a := (hT.mono k1).mono k2
  have hob : OBRel S2 i (.loop (S.w.heap.size + 1) ps as bd N A .ready none) := by
    refine ⟨?_, rec0, ?_, rfl, rfl, rfl, rfl, rfl, hT.size, hT1.val⟩
    · show (if i = i then S1.w.heap.size else _) = _
      rw [if_pos rfl]; exact hsz1
    · show w2.heap[_]? = _
      rw [hw2, ← hsz1]; simp
  have hS2 : SRel (σ.new 0 0 (.loop (S.w.heap.size + 1) ps as bd N A .ready none)) S2 := by
    refine SRelM.s (σ := σ.new 0 0 (.loop (S.w.heap.size + 1) ps as bd N A .ready none)) (SRelM.pushO (S := S1) (w' := w2) (o := .loop rec0) hS1.m ⟨hw2, rfl, rfl, rfl⟩ hiK hob) (hS1.gl.ev k2) fun j hj => ?_
    rcases hj with hj | rfl
    · exact Nat.lt_of_lt_of_le (hS1.kn j hj) (St.new_le _ _ _ _ _)
    · simp [St.new, i]
  have hD2 : S2.frozen S.w.heap.size := by
    refine k2.frozen ⟨?_, fun hO => ?_⟩
    · show S.w.heap.size < w1.heap.size; omega
    · exact absurd hO.2 (Nat.lt_irrefl _)
  have hDh : S2.w.heap[S.w.heap.size]? = some (.deferred (some [])) := by
    show w2.heap[_]? = _
    rw [zas hw2 (by omega), hw1]; simp
  obtain ⟨hent, hcall⟩ := h (S.w.heap.size + 1)
  have hargs : LRel S2 (.fn (.yield (S.w.heap.size + 1)) [] [] :: caps) (.func (.yield (S.w.heap.size + 1)) #[] #[] :: m.toList) := by
    simp only [LRel]
    refine ⟨_, _, rfl, ?_, LRel.mono k2.sub _ _ (LRel.mono k1.sub _ _ h2)⟩
    simp [VRel, LRel]
  have hc := hcall S2 _ hS2 hargs
  refine ⟨S.w.heap.size + 1, [{ target := .collected S.w.heap.size, args := #[] }], w2, { target := .fn (.func f) m, args := #[.func (.yield (S.w.heap.size + 1)) #[] #[]] }, w2, f,
    #[.func (.yield (S.w.heap.size + 1)) #[] #[]] ++ m, w2, run_enterLoop_outer _ _ _ _ _, ?_, fun _ _ => trivial, ?_, fun h => by simp [Fw] at h, ?_⟩
  · simp only [resolve, hge]
    simp [go_sem]
  · simp only [invoke]; exact hent _ _
  · have e : (#[.func (.yield (S.w.heap.size + 1)) #[] #[]] ++ m : Array Value) = (Value.func (.yield (S.w.heap.size + 1)) #[] #[] :: m.toList).toArray := by
      apply Array.ext'; simp
    rw [e]
    refine hc.mono ?_
    rintro e w' ⟨S3, σ3, x, v, rfl, rfl, k3, hS3, hx, st, pd, hi3, hst, hK1, hK2⟩
    obtain ⟨r3, p1, p2, p3, p4, p5, p6, p7, p8, k4, hS4⟩ := zey hS3 hi3 .exhausted pd
    have he : ({ r3 with state := .exhausted } : Loop) = { r3 with state := .exhausted, pending := pd } := by rw [← p6]
    refine ⟨pd, _, by rw [run_endLoop p1 (by rw [p5]; exact hst), he, p6], ?_⟩
    have kall := ((k1.trans k2).trans k3).trans k4
    have hS5 : SRel (σ3.del i) (S3.at (S3.w.putObj (S.w.heap.size + 1) (.loop { r3 with state := .exhausted, pending := pd }))) := by
      refine SRelM.s (σ := σ3.del i) (hS4.m.less fun j o hj => ?_) hS4.gl hS4.kn
      by_cases e : j = i
      · simp [St.del, e] at hj
      · have hj : σ3.m j = some o := by simpa [St.del, e] using hj
        have e' : j ≠ (⟨0, σ.nx 0, 0⟩ : Id) := e
        simp [St.set, e', hj]
    have hT5 : TRel N (S3.at (S3.w.putObj (S.w.heap.size + 1) (.loop { r3 with state := .exhausted, pending := pd }))) A { a with defers := [{ target := .collected S.w.heap.size, args := #[] }] ++ a.defers } := by
      have hT4 := ((hT1.mono k3).mono k4)
      refine ⟨hT4.size, hT4.val, fun d hd => ?_, ?_, hT4.lim⟩
      · rcases List.mem_append.1 hd with hd | hd
        · simp only [List.mem_singleton] at hd
          refine ⟨_, hd, k4.frozen (k3.frozen hD2), ?_, ?_⟩
          · rw [kall.lim]; exact hT.lim
          · have q3 := k3.heap _ hD2.1 hD2.2
            have q4 := k4.heap _ (k3.frozen hD2).1 (k3.frozen hD2).2
            rw [q4, q3]; exact hDh
        · exact hT4.defers d hd
      · refine List.nodup_cons.2 ⟨fun hd => ?_, hT.nodup⟩
        obtain ⟨D, q1, q2, _⟩ := hT.defers _ hd
        simp only [Deferred.mk.injEq, Target.collected.injEq] at q1
        have := q2.1
        omega
    cases hpd : pd with
    | none =>
      refine ⟨_, A, σ3.del i, ?_, kall, hS5, hT5, hK1 hpd⟩
      rw [hpd]; rfl
    | some c =>
      have := AWP.after (hK2 c hpd) kall hS5 hT5
      rw [hpd] at this
      exact this
@[simp] theorem zjl {slot sz : Nat} {o : Ob} : (σ.new slot sz o).m ⟨slot, σ.nx slot, sz⟩ = some o := by simp [St.new]
theorem zdP {slot sz : Nat} {o : Ob} {i : Id} (h : i ≠ ⟨slot, σ.nx slot, sz⟩) : (σ.new slot sz o).m i = σ.m i := by simp [St.new, h]
@[simp] theorem zq6 {slot sz : Nat} {o x : Ob} {i : Id} (h : σ.m i = some x) : (σ.new slot sz o).m i = some x := zaV i x h
@[simp] theorem zmv {i : Id} {o : Ob} : (σ.set i o).m i = (σ.m i).map fun _ => o := by
  cases h : σ.m i <;> simp [St.set, h]
@[simp] theorem zT {i j : Id} {o : Ob} (h : j ≠ i) : (σ.set i o).m j = σ.m j := by simp [St.set, h]
@[simp] theorem zrF {i : Id} {o : Ob} : (σ.set i o).nx = σ.nx := (rfl)
@[simp] theorem zrG {i : Id} : (σ.del i).nx = σ.nx := (rfl)
@[simp] theorem zQ {i j : Id} (h : j ≠ i) : (σ.del i).m j = σ.m j := by simp [St.del, h]
@[simp] theorem zqs {i : Id} : (σ.del i).m i = none := by simp [St.del]
theorem St.ext' {σ τ : St} (h : σ.m = τ.m) (h2 : σ.nx = τ.nx) : σ = τ := by
  cases σ; cases τ; simp only at h h2; subst h h2; rfl
@[simp] theorem zq7 {slot sz : Nat} {o o' : Ob} : (σ.new slot sz o).set ⟨slot, σ.nx slot, sz⟩ o' = σ.new slot sz o' := by
  apply St.ext'
  · funext j
    by_cases h : j = ⟨slot, σ.nx slot, sz⟩
    · subst h; simp
    · rw [zT h, zdP h, zdP h]
  · rfl
theorem zw (σ : St) (slot sz : Nat) : σ.m ⟨slot, σ.nx slot, sz⟩ = none := by
  cases h : σ.m ⟨slot, σ.nx slot, sz⟩ with
  | none => rfl
  | some o => have := σ.wf _ (by rw [h]; simp); simp at this
structure Ext (σ τ : St) : Prop where
  m : ∀ i o, σ.m i = some o → τ.m i = some o
  nx : ∀ s, σ.nx s ≤ τ.nx s
theorem Ext.refl (σ : St) : Ext σ σ := ⟨fun _ _ h => h, fun _ => Nat.le_refl _⟩
theorem Ext.trans {a b c : St} (h : Ext a b) (k : Ext b c) : Ext a c := ⟨fun i o hi => k.m i o (h.m i o hi), fun s => Nat.le_trans (h.nx s) (k.nx s)⟩
theorem Ext.new (σ : St) (slot sz : Nat) (o : Ob) : Ext σ (σ.new slot sz o) := ⟨zaV, fun s => St.new_le _ _ _ _ _⟩
theorem zkP {f : FuncId} {fn : Func} {c : Code} {args : List AV} {K : AV → St → Prop} (hf : P.funcs[f]? = some fn) (hb : fn.body = some c) (hN : fn.ntmps = N) (hname : (fn.name == "runtime.NumGoroutine") = false) (hn : args.length ≤ N)
    (h : AWP P none N c (zkJ P fn K) (zbp args) σ) : ACalls P f args σ K := by
  subst hN; exact zfU hf hb (zbH hf hname hb) hn h
theorem zeg {fn : Func} {K : AV → St → Prop} {e : Exit} (he : e = .normal ∨ e = .ret) {x : AV} (h : zau P σ.m A fn.results = some x) (hK : K x σ) : zkJ P fn K e A σ :=
  ⟨he, x, h, σ, fun _ _ h => h, fun _ => Nat.le_refl _, x, by rw [zdG]; exact Weaker.refl _, hK⟩
theorem ACalls.freeze {f : FuncId} {args : List AV} {K : AV → St → Prop} (i : Id) (h : ACalls P f (args.map (zz (σ.del i).m σ.m)) (σ.del i) K) : ACalls P f args σ K := by
  refine ⟨h.1, fun S vs hS hl => ?_⟩
  have hsub : ∀ j o, (σ.del i).m j = some o → σ.m j = some o := fun j o hj => by
    by_cases e : j = i
    · simp [e] at hj
    · rwa [zQ e] at hj
  have k := zcH hS.m hsub
  have r := zgh hS.m hsub
  refine (h.2 (S.keep (σ.del i).m) vs (SRelM.s (σ := σ.del i) r (hS.gl.ev k) hS.kn) (zcO hS.m hsub hl)).mono ?_
  rintro e w' ⟨S', σ', x, v, h1, h2, h3, h4, h5, h6⟩
  exact ⟨S', σ', x, v, h1, h2, k.trans h3, h4, h5, h6⟩
@[simp] theorem zpe {m m' : zE} {v : Value} : zz m' m (.raw v) = .raw v := (rfl)
@[simp] theorem zpW {m m' : zE} {sz : Nat} {es : List AV} {b : Bool} : zz m' m (.sl sz es b) = .sl sz es b := (rfl)
@[simp] theorem zpf {m m' : zE} {cs : List AV} : zz m' m (.agg cs) = .agg cs := (rfl)
@[simp] theorem zpX {m m' : zE} {f : Fn} {a b : List AV} : zz m' m (.fn f a b) = .fn f a b := (rfl)
@[simp] theorem zpY {m m' : zE} {r : List AV} {o : Nat} : zz m' m (.pp r o) = .pp r o := (rfl)
@[simp] theorem zeU {i : Id} {off len : Nat} {es : List AV} (h : σ.m i = some (.buf es)) (h2 : off + len ≤ es.length) : zz (σ.del i).m σ.m (.rs i off len) = .sl i.sz ((es.drop off).take len) false := by
  simp [zz, h, h2]
def AV.flat1 : AV → Bool
  | .rs _ _ _ | .rp _ _ _ => false
  | _ => true
def AV.flat : AV → Bool
  | .agg cs => cs.all AV.flat1
  | .tup vs => vs.all fun v => match v with | .agg cs => cs.all AV.flat1 | v => v.flat1
  | a => a.flat1
theorem zcQ {m m' : zE} {a : AV} (h : a.flat1 = true) : zz m' m a = a := by cases a <;> first | rfl | simp [AV.flat1] at h
theorem zgm {m m' : zE} : ∀ {l : List AV}, l.all AV.flat1 = true → l.map (zz m' m) = l
  | [], _ => rfl
  | a :: l, h => by
    simp only [List.all_cons, Bool.and_eq_true] at h
    simp only [List.map_cons, zcQ h.1, zgm h.2]
theorem zjm {m m' : zE} {a : AV} (h : a.flat = true) : z7 m' m a = a := by
  cases a with
  | agg cs => simp only [z7, zgm h]
  | tup vs =>
    simp only [z7]
    congr 1
    simp only [AV.flat] at h
    induction vs with
    | nil => rfl
    | cons v vs ih =>
      simp only [List.all_cons, Bool.and_eq_true] at h
      simp only [List.map_cons, ih h.2]
      congr 1
      cases v <;> first | exact zcQ h.1 | (simp only [zgm h.1])
  | _ => simp only [AV.flat] at h; simp only [z7]; exact zcQ h
theorem zC {fn : Func} {σ0 : St} {rv : AV} {e : Exit} (he : e = .normal ∨ e = .ret) (hf : rv.flat = true) (hx : Ext σ0 σ) (h : zau P σ.m A fn.results = some rv) : zdE P fn σ0 rv e A σ :=
  ⟨he, hx.nx, fun i hi => by
    obtain ⟨o, ho⟩ := Option.ne_none_iff_exists'.1 hi
    rw [ho]; exact hx.m i o ho, rv, h, by rw [zjm hf]; exact Weaker.refl _⟩
@[simp] theorem zbu {τ : St} {slot sz : Nat} {o : Ob} (h : Ext σ τ) : Ext σ (τ.new slot sz o) := h.trans (Ext.new _ _ _ _)
attribute [simp] AV.flat AV.flat1 AV.ids zt Ext.refl
theorem zA {x : Option AV} {k : AV → Prop} (h : OKv x k) : OKv x k := h
theorem zB {x : Option Res} {k : Res → Prop} (h : OKr x k) : OKr x k := h
theorem zu {L : List DOp} {K : zk → St → Prop} (h : dops P N L A σ K) : dops P N L A σ K := h
theorem zj8 {K : Exit → zk → St → Prop} {g : Operand} {ps : Array Tmp} {as bd : Code} {f : FuncId} {caps : List AV} (hg : zc A g = .fn (.func f) [] caps)
    (h : ∀ b lo L, lo = (fun st pd => Ob.loop b ps as bd N A st pd) → L = (⟨0, σ.nx 0, 0⟩ : Id) → ACalls P f (.fn (.yield b) [] [] :: caps) (σ.new 0 0 (lo .ready none)) fun _ σ' =>
      ∃ st pd, σ'.m L = some (lo st pd) ∧ st ≠ .busy ∧ (pd = none → K .normal A (σ'.del L)) ∧ (∀ c, pd = some c → AWP P none N c K A (σ'.del L))) :
    AWP P none N (.rangeFunc g ps as bd) K A σ := ziD hg fun b => h b _ _ rfl rfl
theorem YK.of {b : Nat} {ps : Array Tmp} {as bd : Code} {A0 : Nat → AV} {lo : LoopState → Option Code → Ob} {L : Id} {args : List AV} {K : AV → St → Prop} (hL : σ.m L = some (lo .ready none)) (hlo : lo = fun st pd => Ob.loop b ps as bd N A0 st pd) (hlen : args.length = ps.size)
    (h : AWP P (some b) N as (zaX (fun A2 σ2 => σ2.m L = some (lo .ready none) ∧ AWP P (some b) N bd (ze8 L lo K) A2 (σ2.set L (lo .busy none))) (fun _ _ _ => False)) (params N ps.toList args A0) σ) : YK P b args σ K := by
  subst hlo
  exact ⟨L, ps, as, bd, N, A0, hL, hlen, h⟩
@[simp] theorem zpg {t : Nat} {x : AV} {n : Nat} : params n [t] [x] A = put n A t x := (rfl)
@[simp] theorem zph {t u : Nat} {x y : AV} {n : Nat} : params n [t, u] [x, y] A = put n (put n A t x) u y := (rfl)
@[simp] theorem znC {L : Id} {lo : LoopState → Option Code → Ob} {K : AV → St → Prop} : ze8 L lo K .normal A σ = (σ.m L = some (lo .busy none) ∧ K (.raw (.bool true)) (σ.set L (lo .ready none))) := (rfl)
@[simp] theorem zpi {L : Id} {lo : LoopState → Option Code → Ob} {K : AV → St → Prop} : ze8 L lo K .ret A σ = (σ.m L = some (lo .busy none) ∧ K (.raw (.bool false)) (σ.set L (lo .done (some .ret)))) := (rfl)
@[simp] theorem zoK {L : Id} {lo : LoopState → Option Code → Ob} {K : AV → St → Prop} {id : Nat} : ze8 L lo K (.exit id) A σ = (σ.m L = some (lo .busy none) ∧ K (.raw (.bool false)) (σ.set L (lo .done (some (.exit id))))) := (rfl)
theorem zqt {b : Nat} {ps : Array Tmp} {as bd : Code} {A0 : Nat → AV} {lo : LoopState → Option Code → Ob} (hlo : lo = fun st pd => Ob.loop b ps as bd N A0 st pd) (st : LoopState) (pd : Option Code) (es : List AV) : lo st pd ≠ .buf es := by subst hlo; simp
theorem ziE {r : Option Nat} {id : Nat} {c : Code} {K1 : zk → St → Prop} {K : Exit → zk → St → Prop} (R : zk → St → Prop) (h1 : AWP P r N c (zaU id (zaX R K)) A σ) (h2 : ∀ A σ, R A σ → K1 A σ) :
    AWP P r N c (zaU id (zaX K1 K)) A σ := h1.mono fun e A σ h => by
  cases e with
  | exit i =>
    simp only [zaU] at h ⊢
    split
    · rename_i e; rw [if_pos e] at h; exact h2 _ _ h
    · rename_i e; rw [if_neg e] at h; exact h
  | normal => exact h2 _ _ h
  | _ => exact h
theorem zjn {r : Option Nat} {c : Code} {K1 : zk → St → Prop} {K : Exit → zk → St → Prop} (R : zk → St → Prop) (h1 : AWP P r N c (zaX R K) A σ) (h2 : ∀ A σ, R A σ → K1 A σ) :
    AWP P r N c (zaX K1 K) A σ := h1.mono fun e A σ h => by
  cases e with
  | normal => exact h2 _ _ h
  | _ => exact h
end
end Go.Proofs.YtckabcbfbpejkaaDoor.Av
namespace Go.Proofs.YtckabcbfbpejkaaDoor.Av
set_option linter.unusedSimpArgs false
set_option linter.unusedVariables false
open Go
section
variable {P : Program} {r : Option Nat} {N : Nat} {A : zk} {σ : St} {K : Exit → zk → St → Prop} {K1 : zk → St → Prop}
theorem znD {c : Code} (R : zk → St → Prop) (h1 : ∀ R1 : zk → St → Prop, (∀ A σ, R A σ → R1 A σ) → AWP P r N c (zaX R1 K) A σ) (h2 : ∀ A σ, R A σ → K1 A σ) : AWP P r N c (zaX K1 K) A σ :=
  zjn R (h1 R fun _ _ h => h) h2
theorem znd {id : Nat} {c : Code} (R : zk → St → Prop) (h1 : ∀ R1 : zk → St → Prop, (∀ A σ, R A σ → R1 A σ) → AWP P r N c (zaU id (zaX R1 K)) A σ) (h2 : ∀ A σ, R A σ → K1 A σ) : AWP P r N c (zaU id (zaX K1 K)) A σ :=
  ziE R (h1 R fun _ _ h => h) h2
theorem zao {c : Code} (I : Nat → zk → St → Prop) (n : Nat) (h0 : I n A σ)
    (round : ∀ n A σ, I n A σ → ∀ I1 : zk → St → Prop, (∀ n' A σ, n' < n → I n' A σ → I1 A σ) → AWP P r N c (zaX I1 K) A σ) : AWP P r N (.loop c) K A σ :=
  zja I n h0 fun n A σ h => round n A σ h _ fun n' _ _ h1 h2 => ⟨n', h1, h2⟩
end
end Go.Proofs.YtckabcbfbpejkaaDoor.Av
namespace Go.Proofs.YtckabcbfbpejkaaDoor.Av
open Go
set_option linter.unusedSimpArgs false
set_option linter.unusedVariables false
section
variable {P : Program} {r : Option Nat} {N : Nat} {A : zk} {σ σ0 τ : St} {K : Exit → zk → St → Prop}
structure SlT (P : Program) (t : TypeId) (n b : Nat) : Prop where
  ex : ∃ e z, zY P t = some e ∧ zV P e = some n ∧ zac P e = some b ∧ zX P e = some z ∧ (zx z).cells.length = n ∧ 0 < n ∧ 0 < b
def OwnL (σ0 τ : St) (n : Nat) (v : AV) (es : List AV) : Prop :=
  (es = [] ∧ v = .sl 0 [] true) ∨ ∃ j, v = .rs j 0 es.length ∧ j.sz = n ∧ τ.m j = some (.buf es) ∧ σ0.m j = none
theorem OwnL.nil {n : Nat} : OwnL σ0 τ n (.sl 0 [] true) [] := .inl ⟨rfl, rfl⟩
theorem OwnL.ext {n : Nat} {v : AV} {es : List AV} {ρ : St} (h : OwnL σ0 τ n v es) (k : Ext τ ρ) : OwnL σ0 ρ n v es := by
  rcases h with h | ⟨j, h1, h2, h3, h4⟩
  · exact .inl h
  · exact .inr ⟨j, h1, h2, k.m _ _ h3, h4⟩
theorem OwnL.of {n : Nat} {j : Id} {es : List AV} (h2 : j.sz = n) (h3 : τ.m j = some (.buf es)) (h4 : σ0.m j = none) {l : Nat} (hl : l = es.length) : OwnL σ0 τ n (.rs j 0 l) es := by subst hl; exact .inr ⟨j, rfl, h2, h3, h4⟩
theorem zai (hE : Ext σ0 τ) {slot n : Nat} : σ0.m ⟨slot, τ.nx slot, n⟩ = none := by
  cases h : σ0.m ⟨slot, τ.nx slot, n⟩ with
  | none => rfl
  | some o => have h1 := σ0.wf _ (by rw [h]; simp); have h2 := hE.nx slot; simp at h1; omega
theorem zcq {slot : Nat} {t : TypeId} {n by_ : Nat} {v x : AV} {es ys : List AV} {k : AV → St → Prop} (hT : SlT P t n by_) (hO : OwnL σ0 τ n v es) (hE : Ext σ0 τ)
    (hx : zbC τ.m x = some ys) (hxs : ys = [] ∨ zdY x = n) (hc : zJ (zm ys) = true) (hlen : (es.length + ys.length) * by_ ≤ 2 ^ 47)
    (hk : ∀ v' τ', OwnL σ0 τ' n v' (es ++ ys) → Ext σ0 τ' → (∀ i o, τ.m i = some o → (∀ a l, v ≠ .rs i a l) → τ'.m i = some o ∧ ∀ a l, v' ≠ .rs i a l) → (∀ s, τ.nx s ≤ τ'.nx s) → k v' τ') : OKr (zI P τ.m t v x) (Res.go slot τ k) := by
  obtain ⟨e, z, h1, h2, h3, h4, h5, h6, h7⟩ := hT.ex
  rcases hO with ⟨rfl, rfl⟩ | ⟨j, rfl, hj, hm, hn⟩
  · unfold zI
    simp only [h1, h2, h3, h4, hx]
    rw [if_pos ⟨hxs, h5, h6, h7, hc⟩]
    rw [if_pos ⟨by first | rfl | trivial, by simp, hlen⟩]
    by_cases hy : ys = []
    · subst hy
      simp only [if_true, zgl, znP]
      exact hk _ _ (.inl ⟨rfl, rfl⟩) hE (fun i o h _ => ⟨h, by simp⟩) fun _ => Nat.le_refl _
    · rw [if_neg hy]
      simp only [zgl, zoX]
      refine hk _ _ (OwnL.of rfl (by simp) (zai hE) (by simp)) (hE.trans (Ext.new _ _ _ _)) (fun i o h _ => ⟨zaV _ _ h, ?_⟩) fun s => St.new_le _ _ _ _ _
      intro a l e
      injection e with e
      rw [← e, zw] at h; cases h
  · unfold zI
    simp only [h1, h2, h3, h4, hx, hm]
    rw [if_pos ⟨hxs, h5, h6, h7, hc⟩]
    rw [if_pos ⟨by first | rfl | trivial, by first | rfl | trivial, hj, hlen⟩]
    simp only [zgl, zoY, hj]
    have hd : ∀ i o, i ≠ j → τ.m i = some o → ((τ.del j).new slot n (.buf (es ++ ys))).m i = some o := fun i o hi h => zaV _ _ (by rw [zQ hi]; exact h)
    refine hk _ _ (OwnL.of rfl (zjl (σ := τ.del j)) (zai hE) (by simp)) ⟨fun i o h => ?_, fun s => Nat.le_trans (hE.nx s) (St.new_le (τ.del j) _ _ _ _)⟩ (fun i o h hne => ⟨hd i o (fun e => hne 0 es.length (by rw [e])) h, ?_⟩) fun s => St.new_le (τ.del j) _ _ _ _
    · exact hd i o (fun e => by rw [e, hn] at h; cases h) (hE.m i o h)
    · intro a l e
      injection e with e
      rw [← e, zw] at h; cases h
theorem zbv {c : Code} (j : Id) (h : AWP P r N c K (fun t => zz (σ.del j).m σ.m (A t)) (σ.del j)) : AWP P r N c K A σ := by
  intro S a hS hT
  have hsub : ∀ i o, (σ.del j).m i = some o → σ.m i = some o := fun i o hi => by
    by_cases e : i = j
    · simp [e] at hi
    · rwa [zQ e] at hi
  have k := zcH hS.m hsub
  have rr := zgh hS.m hsub
  have hT' := hT.mono k
  exact AWP.after (S' := S.keep (σ.del j).m) h k (SRelM.s (σ := σ.del j) rr (hS.gl.ev k) hS.kn) ⟨hT'.size, fun t => zde hS.m hsub (hT.val t), hT'.defers, hT'.nodup, hT'.lim⟩
theorem zmw {c : Code} {A' : zk} (hw : ∀ t, Weaker (A t) (A' t)) (h : AWP P r N c K A' σ) : AWP P r N c K A σ := fun S a hS hT =>
  h S a hS ⟨hT.size, fun t => hw t _ _ (hT.val t), hT.defers, hT.nodup, hT.lim⟩
theorem zcd {n : Nat} : Weaker (.sl 0 [] true) (.sl n [] false) := by
  intro S v h
  simp only [VRel] at h ⊢
  obtain ⟨base, cap, e, h1, h2, h3⟩ := h
  exact ⟨base, cap, e, h1, by simp, by simp⟩
theorem zoL {n : Nat} {es : List AV} : Weaker (.sl n es true) (.sl n es false) := by
  intro S v h
  simp only [VRel] at h ⊢
  obtain ⟨base, cap, e, h1, h2, h3⟩ := h
  exact ⟨base, cap, e, h1, by simp, h3⟩
@[simp] theorem zfh {i j : Id} {k off : Nat} (h : i ≠ j) : zz (σ.del j).m σ.m (.rp i k off) = .rp i k off := by
  simp only [zz, zQ h]
  cases h2 : σ.m i <;> simp
@[simp] theorem zfi {i j : Id} {k off : Nat} (h : i ≠ j) : zz (σ.del j).m σ.m (.rs i k off) = .rs i k off := by
  simp only [zz, zQ h]
  cases h2 : σ.m i <;> simp
theorem zkQ {c : Code} (t : Nat) {n : Nat} {es : List AV} (hO : OwnL σ0 σ n (A t) es) (hE : Ext σ0 σ)
    (h : ∀ A' τ', Ext σ0 τ' → A' t = .sl n es false → (∀ u, u ≠ t → (A u).flat1 = true → A' u = A u) → (∀ u i k off, u ≠ t → A u = .rp i k off → A t ≠ .rs i 0 es.length → A' u = A u) → (∀ u i k off, u ≠ t → A u = .rs i k off → A t ≠ .rs i 0 es.length → A' u = A u) →
      (∀ i o, σ.m i = some o → A t ≠ .rs i 0 es.length → τ'.m i = some o) → (∀ s, σ.nx s ≤ τ'.nx s) → AWP P r N c K A' τ') : AWP P r N c K A σ := by
  rcases hO with ⟨rfl, hv⟩ | ⟨j, hv, hj, hm, hn⟩
  · refine zmw (A' := fun u => if u = t then .sl n [] false else A u) (fun u => ?_) (h _ σ hE (by simp) (fun u hu _ => by simp [hu]) (fun u i k off hu _ _ => by simp [hu]) (fun u i k off hu _ _ => by simp [hu]) (fun i o h _ => h) fun _ => Nat.le_refl _)
    by_cases e : u = t
    · subst e; simp only [if_true]; rw [hv]; exact zcd
    · simp only [e, if_false]; exact Weaker.refl _
  · refine zbv j (h _ _ ⟨fun i o hi => ?_, hE.nx⟩ ?_ (fun u hu hf => zcQ hf) (fun u i k off hu hi hne => ?_) (fun u i k off hu hi hne => ?_) (fun i o hi hne => ?_) fun _ => Nat.le_refl _)
    · rw [zQ (fun e => by rw [e, hn] at hi; cases hi)]; exact hE.m i o hi
    · show zz _ _ (A t) = _
      rw [hv, zeU hm (by simp), hj]; simp
    · show zz _ _ (A u) = _
      rw [hi]
      exact zfh (fun e => hne (by rw [e]; exact hv))
    · show zz _ _ (A u) = _
      rw [hi]
      exact zfi (fun e => hne (by rw [e]; exact hv))
    · rw [zQ (fun e => hne (by rw [e]; exact hv))]; exact hi
theorem zqu {fn : Func} {K : AV → St → Prop} {e : Exit} {n : Nat} {v : AV} {es : List AV} (he : e = .normal ∨ e = .ret) (h : zau P σ.m A fn.results = some v) (hO : OwnL σ0 σ n v es) (hE : Ext σ0 σ)
    (hK : ∀ τ', Ext σ0 τ' → K (.sl n es false) τ') : zkJ P fn K e A σ := by
  rcases hO with ⟨rfl, rfl⟩ | ⟨j, rfl, hj, hm, hn⟩
  · exact ⟨he, _, h, σ, fun _ _ h => h, fun _ => Nat.le_refl _, _, by rw [zdG]; exact zcd, hK _ hE⟩
  · have hsub : ∀ i o, (σ.del j).m i = some o → σ.m i = some o := fun i o hi => by
      by_cases e : i = j
      · simp [e] at hi
      · rwa [zQ e] at hi
    refine ⟨he, _, h, σ.del j, hsub, fun _ => Nat.le_refl _, _, Weaker.refl _, ?_⟩
    have e1 : z7 (σ.del j).m σ.m (.rs j 0 es.length) = .sl n es false := by
      simp only [z7]
      rw [zeU hm (by simp), hj]; simp
    rw [e1]
    refine hK _ ⟨fun i o hi => ?_, hE.nx⟩
    rw [zQ (fun e => by rw [e, hn] at hi; cases hi)]; exact hE.m i o hi
theorem zmx {fn : Func} {e : Exit} {n : Nat} {v : AV} {es : List AV} (he : e = .normal ∨ e = .ret) (h : zau P σ.m A fn.results = some v) (hO : OwnL σ0 σ n v es) (hE : Ext σ0 σ) : zdE P fn σ0 (.sl n es false) e A σ := by
  have hm : ∀ i, σ0.m i ≠ none → σ.m i = σ0.m i := fun i hi => by
    obtain ⟨o, ho⟩ := Option.ne_none_iff_exists'.1 hi
    rw [ho]; exact hE.m i o ho
  rcases hO with ⟨rfl, rfl⟩ | ⟨j, rfl, hj, hmj, hn⟩
  · exact ⟨he, hE.nx, hm, _, h, zcd⟩
  · refine ⟨he, hE.nx, hm, _, h, ?_⟩
    have e1 : z7 σ0.m σ.m (.rs j 0 es.length) = .sl n es false := by
      simp only [z7, zz, hn, hmj]
      rw [if_pos (by simp), hj]; simp
    rw [e1]; exact Weaker.refl _
end
end Go.Proofs.YtckabcbfbpejkaaDoor.Av
namespace Go.Proofs.YtckabcbfbpejkaaDoor.Av
open Go
set_option linter.unusedSimpArgs false
set_option linter.unusedVariables false
def zqv (P : Program) (f : FuncId) (caps : List AV) (i : Id) (c0 : Ob) (xs : List AV) : Prop :=
  ∀ (b : Nat) (I : Nat → St → Prop) (J : St → Prop),
    (∀ k σ τ, I k σ → Ext σ τ → I k τ) → (∀ k σ c, I k σ → σ.m i ≠ none → I k (σ.set i c)) →
    (∀ k x σ c, xs[k]? = some x → I k σ → σ.m i = some c → YK P b [x] σ fun r τ => (r = .raw (.bool true) ∧ I (k + 1) τ ∧ τ.m i = some c) ∨ (r = .raw (.bool false) ∧ J τ)) →
    ∀ σ, σ.m i = some c0 → I 0 σ → ACalls P f (.fn (.yield b) [] [] :: caps) σ fun _ τ => I xs.length τ ∨ J τ
section
variable {P : Program} {N : Nat} {A : zk} {σ σ0 τ : St} {K : Exit → zk → St → Prop}
structure Gath (σ0 : St) (w L i : Id) (n : Nat) (lo1 : Ob) (es : List AV) (τ : St) : Prop where
  ext : Ext σ0 τ
  lp : τ.m L = some lo1
  own : ∃ v, τ.m w = some (.buf [v]) ∧ OwnL σ0 τ n v es ∧ (∀ a l, v ≠ .rs w a l) ∧ (∀ a l, v ≠ .rs L a l) ∧ ∀ a l, v ≠ .rs i a l
theorem Gath.up {w L i : Id} {n : Nat} {lo1 : Ob} {es : List AV} {ρ : St} (h : Gath σ0 w L i n lo1 es τ) (k : Ext τ ρ) : Gath σ0 w L i n lo1 es ρ := by
  obtain ⟨v, h1, h2, h3⟩ := h.own
  exact ⟨h.ext.trans k, k.m _ _ h.lp, v, k.m _ _ h1, h2.ext k, h3⟩
theorem Gath.setI {w L i : Id} {n : Nat} {lo1 c : Ob} {es : List AV} (h : Gath σ0 w L i n lo1 es τ) (hi0 : σ0.m i = none) (hiw : w ≠ i) (hiL : L ≠ i) : Gath σ0 w L i n lo1 es (τ.set i c) := by
  obtain ⟨v, h1, h2, h3, h4, h5⟩ := h.own
  refine ⟨⟨fun l o ho => ?_, h.ext.nx⟩, by rw [zT hiL]; exact h.lp, v, by rw [zT hiw]; exact h1, ?_, h3, h4, h5⟩
  · rw [zT (fun e => by rw [e, hi0] at ho; cases ho)]; exact h.ext.m l o ho
  · rcases h2 with h2 | ⟨j, e, q1, q2, q3⟩
    · exact .inl h2
    · exact .inr ⟨j, e, q1, by rw [zT (fun e2 => h5 0 es.length (by rw [e, e2]))]; exact q2, q3⟩
theorem Gath.fin {w L i : Id} {n : Nat} {lo1 lo2 c x : Ob} {es : List AV} {v : AV} (hE : Ext σ0 τ) (hL : τ.m L = some lo1) (hw : τ.m w = some x) (hi : τ.m i = some c) (hO : OwnL σ0 τ n v es) (h3 : (∀ a l, v ≠ .rs w a l) ∧ (∀ a l, v ≠ .rs L a l) ∧ ∀ a l, v ≠ .rs i a l)
    (hw0 : σ0.m w = none) (hL0 : σ0.m L = none) (hwL : w ≠ L) (hwi : w ≠ i) (hLi : L ≠ i) :
    (τ.set w (.buf [v])).m L = some lo1 ∧ Gath σ0 w L i n lo2 es ((τ.set w (.buf [v])).set L lo2) ∧ ((τ.set w (.buf [v])).set L lo2).m i = some c := by
  have e1 : (τ.set w (.buf [v])).m L = some lo1 := by rw [zT (Ne.symm hwL)]; exact hL
  refine ⟨e1, ⟨⟨fun l o ho => ?_, hE.nx⟩, by simp [e1], v, ?_, ?_, h3⟩, ?_⟩
  · rw [zT (fun e => by rw [e, hL0] at ho; cases ho), zT (fun e => by rw [e, hw0] at ho; cases ho)]; exact hE.m l o ho
  · rw [zT hwL]; simp [hw]
  · rcases hO with h2 | ⟨j, e, q1, q2, q3⟩
    · exact .inl h2
    · exact .inr ⟨j, e, q1, by rw [zT (fun e2 => h3.2.1 0 es.length (by rw [e, e2])), zT (fun e2 => h3.1 0 es.length (by rw [e, e2]))]; exact q2, q3⟩
  · rw [zT (Ne.symm hLi), zT (Ne.symm hwi)]; exact hi
theorem zpj {g : Operand} {ps : Array Tmp} {as_ bd : Code} {f : FuncId} {caps : List AV} {i w : Id} {c0 : Ob} {xs es0 : List AV} {n : Nat} {v0 : AV} (hg : zc A g = .fn (.func f) [] caps) (hit : zqv P f caps i c0 xs)
    (hE : Ext σ0 σ) (hi : σ.m i = some c0) (hi0 : σ0.m i = none) (hw : σ.m w = some (.buf [v0])) (hw0 : σ0.m w = none) (hwi : w ≠ i) (hO : OwnL σ0 σ n v0 es0) (hv : (∀ a l, v0 ≠ .rs w a l) ∧ ∀ a l, v0 ≠ .rs i a l)
    (body : ∀ b lo L k x τ c, lo = (fun st pd => Ob.loop b ps as_ bd N A st pd) → σ0.m L = none → L ≠ i → w ≠ L → xs[k]? = some x → Gath σ0 w L i n (lo .ready none) (es0 ++ xs.take k) τ → τ.m i = some c →
      YK P b [x] τ fun r τ' => r = .raw (.bool true) ∧ Gath σ0 w L i n (lo .ready none) (es0 ++ xs.take k ++ [x]) τ' ∧ τ'.m i = some c)
    (fin : ∀ τ', Ext σ0 τ' → (∃ v, τ'.m w = some (.buf [v]) ∧ OwnL σ0 τ' n v (es0 ++ xs)) → K .normal A τ') : AWP P none N (.rangeFunc g ps as_ bd) K A σ := by
  refine zj8 hg fun b lo L hlo hL => ?_
  have hLf : σ.m L = none := by rw [hL]; exact zw _ _ _
  have hL0 : σ0.m L = none := by rw [hL]; exact zai hE
  have hLi : L ≠ i := fun e => by rw [← e, hLf] at hi; cases hi
  have hwL : w ≠ L := fun e => by rw [e, hLf] at hw; cases hw
  have hσL : (σ.new 0 0 (lo .ready none)).m L = some (lo .ready none) := by rw [hL]; simp
  have hE2 : Ext σ (σ.new 0 0 (lo .ready none)) := Ext.new _ _ _ _
  have hv0L : ∀ a l, v0 ≠ .rs L a l := fun a l e => by
    rcases hO with ⟨_, e2⟩ | ⟨j, e2, _, h3, _⟩
    · rw [e] at e2; cases e2
    · rw [e] at e2; injection e2 with e2; rw [← e2, hLf] at h3; cases h3
  have h0 : Gath σ0 w L i n (lo .ready none) (es0 ++ xs.take 0) (σ.new 0 0 (lo .ready none)) :=
    ⟨hE.trans hE2, hσL, v0, hE2.m _ _ hw, by rw [List.take_zero, List.append_nil]; exact hO.ext hE2, hv.1, hv0L, hv.2⟩
  refine (hit b (fun k τ => Gath σ0 w L i n (lo .ready none) (es0 ++ xs.take k) τ) (fun _ => False) (fun k a b h1 h2 => h1.up h2) (fun k a c h1 _ => h1.setI hi0 hwi hLi) ?_ _ (hE2.m _ _ hi) h0).mono ?_
  · intro k x τ c hx hG hc
    refine YK.mono ?_ (body b lo L k x τ c hlo hL0 hLi hwL hx hG hc)
    rintro _ τ' ⟨rfl, q1, q2⟩
    refine .inl ⟨rfl, ?_, q2⟩
    rw [List.take_add_one, hx]
    simpa using q1
  · rintro _ τ (hG | h)
    · refine ⟨_, _, hG.lp, by simp, fun _ => ?_, fun c h => by cases h⟩
      obtain ⟨v, q1, q2, q3, q4, q5⟩ := hG.own
      refine fin _ ⟨fun l o ho => ?_, hG.ext.nx⟩ ⟨v, by rw [zQ hwL]; exact q1, ?_⟩
      · rw [zQ (fun e => by rw [e, hL0] at ho; cases ho)]; exact hG.ext.m l o ho
      · rw [List.take_length] at q2
        rcases q2 with q2 | ⟨j, e, p1, p2, p3⟩
        · exact .inl q2
        · exact .inr ⟨j, e, p1, by rw [zQ (fun e2 => q4 0 (es0 ++ xs).length (by rw [e, e2]))]; exact p2, p3⟩
    · exact h.elim
end
end Go.Proofs.YtckabcbfbpejkaaDoor.Av
namespace Go.Proofs.YtckabcbfbpejkaaDoor.Av
set_option linter.unusedSimpArgs false
set_option linter.unusedVariables false
open Go
section
variable {P : Program} {N : Nat} {A : zk} {σ σ0 τ : St} {K : Exit → zk → St → Prop}
theorem OwnL.cells {n : Nat} {v : AV} {es : List AV} (h : OwnL σ0 τ n v es) : v.cells = [v] := by
  rcases h with ⟨_, rfl⟩ | ⟨j, rfl, _⟩ <;> rfl
theorem OwnL.cellOK {n : Nat} {v : AV} {es : List AV} (h : OwnL σ0 τ n v es) : Av.cellOK v = true := by
  rcases h with ⟨_, rfl⟩ | ⟨j, rfl, _⟩ <;> rfl
theorem OwnL.setPart {n : Nat} {v x : AV} {es : List AV} (h : OwnL σ0 τ n v es) : Av.setPart v 0 [x] = x := by
  rcases h with ⟨_, rfl⟩ | ⟨j, rfl, _⟩ <;> rfl
theorem Gath.start {w L i : Id} {n slot sz : Nat} {lo1 lo2 c x : Ob} {es : List AV} (h : Gath σ0 w L i n lo1 es τ) (hc : τ.m i = some c) (hL0 : σ0.m L = none) (hwL : w ≠ L) (hLi : L ≠ i) :
    ((τ.new slot sz x).set L lo2).m ⟨slot, τ.nx slot, sz⟩ = some x ∧ ((τ.new slot sz x).set L lo2).m L = some lo2 ∧ ((τ.new slot sz x).set L lo2).m i = some c ∧ Ext σ0 ((τ.new slot sz x).set L lo2) ∧
      ∃ v, ((τ.new slot sz x).set L lo2).m w = some (.buf [v]) ∧ OwnL σ0 ((τ.new slot sz x).set L lo2) n v es ∧ (∀ a l, v ≠ .rs w a l) ∧ (∀ a l, v ≠ .rs L a l) ∧ ∀ a l, v ≠ .rs i a l := by
  obtain ⟨hE, hl, v, h1, h2, h3⟩ := h
  have hn : ∀ j o, τ.m j = some o → (τ.new slot sz x).m j = some o := fun j o => zaV _ _
  have hne : (⟨slot, τ.nx slot, sz⟩ : Id) ≠ L := fun e => by have := zw τ slot sz; rw [e, hl] at this; cases this
  have hL1 := hn _ _ hl
  refine ⟨by rw [zT hne]; simp, by simp [hL1], by rw [zT (Ne.symm hLi)]; exact hn _ _ hc, ⟨fun j o ho => ?_, fun s => Nat.le_trans (hE.nx s) (St.new_le τ slot sz x s)⟩, v, by rw [zT hwL]; exact hn _ _ h1, ?_, h3⟩
  · rw [zT (fun e => by rw [e, hL0] at ho; cases ho)]; exact hn _ _ (hE.m j o ho)
  · rcases h2 with h2 | ⟨j, e, q1, q2, q3⟩
    · exact .inl h2
    · exact .inr ⟨j, e, q1, by rw [zT (fun e2 => h3.2.1 0 es.length (by rw [e, e2]))]; exact hn _ _ q2, q3⟩
end
end Go.Proofs.YtckabcbfbpejkaaDoor.Av
namespace Go.Proofs.YtckabcbfbpejkaaDoor.Av
open Go
set_option linter.unusedSimpArgs false
set_option linter.unusedVariables false
section
variable {P : Program} {N : Nat} {r : Option Nat}
theorem zjo {ops : List Oper} {rc : Oper → Bool} {Q : Exit → Act → World → Prop} (hed : zcZ ops = true) (J : List Nat → zk → St → Prop)
    (pick : ∀ L i A σ, L.Nodup → i ∈ L → i < ops.length → (∀ j, ((zaq ops).getD i 0).testBit j = true → j ∉ L) → J L A σ → zbe (zU ops rc i) A σ → zae P (zU ops rc i) A σ fun v σ' => J (L.erase i) (zD N A (zU ops rc i).o.dst v) σ') :
    ∀ (fuel : Nat) (L : List Nat) (listed : Array Bool) {A : zk} {σ : St} {S : Ctx} {a : Act}, listed.size = ops.length → zji ops listed → (∀ i, i ∈ L ↔ i < ops.length ∧ listed.getD i true = false) → L.Nodup → L.length ≤ fuel →
      J L A σ → SRel σ S → TRel N S A a →
      (∀ S' σ' A' a', Ev S S' → SRel σ' S' → TRel N S' A' a' → J [] A' σ' → Q .normal a' S'.w) → wpAnyIn (Fw r) 0 P .any ops.toArray Q fuel listed a S.w := by
  intro fuel
  have hdone : ∀ (L : List Nat) (listed : Array Bool), listed.size = ops.length → (∀ i, i ∈ L ↔ i < ops.length ∧ listed.getD i true = false) → Region.ready .any ops.toArray listed = [] → L = [] := by
    intro L listed hsz hL hr
    apply Classical.byContradiction
    intro hne
    have hex : ∃ i, i < ops.length ∧ listed.getD i true = false := by
      obtain ⟨x, hx⟩ := List.exists_mem_of_ne_nil L hne
      exact ⟨x, (hL x).1 hx⟩
    obtain ⟨i, ⟨h1, h2⟩, h3⟩ := least hex
    have : i ∈ Region.ready .any ops.toArray listed := by
      unfold Region.ready
      rw [List.mem_filter]
      refine ⟨by simpa using h1, ?_⟩
      have ho : ops[i]? = some ops[i] := List.getElem?_eq_getElem h1
      simp only [h2, List.getElem?_toArray, ho, Option.map_some, Option.getD_some, Bool.not_false, Bool.true_and]
      rw [Array.all_eq_true_iff_forall_mem]
      intro e he
      simp only [Bool.or_eq_true, Bool.not_eq_true']
      by_cases hb : Region.binds .any e = true
      · right
        have hd := List.all_eq_true.1 hed (ops[i], i) (by rw [List.mem_zipIdx_iff_getElem?]; exact ho)
        have hd2 := List.all_eq_true.1 hd e (by simpa using he)
        simp only [hb, Bool.not_true, Bool.false_or, decide_eq_true_eq] at hd2
        by_cases hx : listed.getD e.on true = false
        · have := h3 e.on ⟨by omega, hx⟩; omega
        · have hlt : e.on < listed.size := by omega
          simpa [Array.getD, hlt] using hx
      · left; simpa using hb
    rw [hr] at this
    simp at this
  induction fuel with
  | zero =>
    intro L listed A σ S a hsz hcl hL hnd hf h hS hT hQ
    have : L = [] := List.length_eq_zero_iff.1 (by omega)
    subst this
    refine ⟨?_, hQ S σ A a (Ev.refl S) hS hT h⟩
    unfold Region.ready
    rw [List.filter_eq_nil_iff]
    intro i hi
    have := (hL i).2
    simp at this hi
    simp [this hi]
  | succ fuel ih =>
    intro L listed A σ S a hsz hcl hL hnd hf h hS hT hQ
    refine ⟨fun hr => ?_, fun i hi => ?_⟩
    · have := hdone L listed hsz hL hr
      subst this
      exact hQ S σ A a (Ev.refl S) hS hT h
    · unfold Region.ready at hi
      rw [List.mem_filter] at hi
      obtain ⟨hi1, hi2⟩ := hi
      have hi1 : i < ops.length := by simpa using hi1
      have ho : ops[i]? = some ops[i] := List.getElem?_eq_getElem hi1
      simp only [List.getElem?_toArray, ho, Option.map_some, Option.getD_some, Bool.and_eq_true, Bool.not_eq_true'] at hi2
      obtain ⟨hnl, hall⟩ := hi2
      have hready : zhK listed ops[i] := fun e he hb => by
        rw [Array.all_eq_true_iff_forall_mem] at hall
        have := hall e (by simpa using he)
        simpa [hb] using this
      have hiL : i ∈ L := (hL i).2 ⟨hi1, hnl⟩
      have hd : zU ops rc i = ⟨zbP ops ops[i], rc ops[i], ops[i]⟩ := by simp [zU, ho]
      have hanc : ∀ j, ((zaq ops).getD i 0).testBit j = true → j ∉ L := by
        intro j hb hj
        have hlj : listed.getD j false = true := zg3 hcl ops.length i ops[i] j (Nat.le_refl _) hi1 ho hready (by rw [List.take_length]; exact hb)
        have := (hL j).1 hj
        have hlt : j < listed.size := by omega
        have h1 := this.2
        simp [Array.getD, hlt] at h1 hlj
        rw [h1] at hlj; cases hlj
      have hb := pick L i A σ hnd hiL hi1 hanc h (zjj hS hT)
      rw [hd] at hb
      have hget : ∀ k b, (listed.setIfInBounds i true).getD k b = if k = i then true else listed.getD k b := fun k b => by
        by_cases hk : k = i
        · subst hk; simp [Array.getD, hsz, hi1]
        · simp only [Array.getD, Array.size_setIfInBounds, hk, if_false]
          split
          · rename_i hlt
            simp only [Array.getInternal_eq_getElem]
            exact Array.getElem_setIfInBounds_ne (by simpa using hlt) (fun x => hk x.symm)
          · rfl
      have next : ∀ S' σ' A' a', Ev S S' → SRel σ' S' → TRel N S' A' a' → J (L.erase i) A' σ' → wpAnyIn (Fw r) 0 P .any ops.toArray Q fuel (listed.setIfInBounds i true) a' S'.w := by
        intro S' σ' A' a' k1 k2 k3 k4
        refine ih (L.erase i) _ (by simpa using hsz) ?_ (fun x => ?_) (hnd.erase i) (by have := List.length_erase_of_mem hiL; have := List.length_pos_of_mem hiL; omega) k4 k2 k3 fun S2 σ2 A2 a2 q1 q2 q3 q4 => hQ S2 σ2 A2 a2 (k1.trans q1) q2 q3 q4
        · intro k o hk hl e he hbi
          rw [hget]
          split
          · rfl
          · rw [hget] at hl
            split at hl
            · rename_i e1; subst e1
              rw [ho] at hk
              injection hk with hk
              subst hk
              exact hready e he hbi
            · exact hcl k o hk hl e he hbi
        · rw [hget, List.Nodup.mem_erase_iff hnd]
          by_cases hx : x = i
          · subst hx; simp
          · rw [if_neg hx, ← hL x]
            simp [hx]
      unfold wpOpIn
      simp only [List.getElem?_toArray, ho]
      unfold zae at hb
      rcases zez hb hT with ⟨hw, hb⟩ | ⟨hw, hb⟩
      · rw [if_pos hw]
        exact ze9 (zeE (K := fun A' σ' => J (L.erase i) A' σ') hb) hS hT next
      · rw [if_neg (by simp [hw])]
        exact ⟨zbQ, next S σ _ _ (Ev.refl S) hS (hT.put (r := zK) (v := undef) ops[i].dst (by simp [zK, VRel])) hb⟩
theorem zbD {K : zk → St → Prop} : ∀ (l m : List DOp) {A : zk} {σ : St}, dops P N (l ++ m) A σ K ↔ dops P N l A σ fun A' σ' => dops P N m A' σ' K
  | [], m, A, σ => Iff.rfl
  | d :: l, m, A, σ => by
    simp only [List.cons_append, dops]
    constructor
    · exact zR fun v σ' h => (zbD l m).1 h
    · exact zR fun v σ' h => (zbD l m).2 h
theorem zc0 {K K' : zk → St → Prop} (hk : ∀ A σ, K A σ → K' A σ) : ∀ (l : List DOp) {A : zk} {σ : St}, dops P N l A σ K → dops P N l A σ K'
  | [], A, σ, h => hk _ _ h
  | d :: l, A, σ, h => zR (fun v σ' h => zc0 hk l h) h
theorem zbS {ops : List Oper} {rc : Oper → Bool} {K : zk → St → Prop} {L1 L2 : List Nat} {i : Nat} {A : zk} {σ : St} (hp : zad ops rc (zaq ops) (L1 ++ [i]) = true) (hanc : ∀ j ∈ L1, ((zaq ops).getD i 0).testBit j = false) (hl : zbe (zU ops rc i) A σ)
    (h : dops P N ((L1 ++ i :: L2).map (zU ops rc)) A σ K) : zae P (zU ops rc i) A σ fun v σ' => dops P N ((L1 ++ L2).map (zU ops rc)) (zD N A (zU ops rc i).o.dst v) σ' K := by
  rw [List.map_append, List.map_cons] at h
  have := zfd (L1.map (zU ops rc)) (fun x hx => by
    obtain ⟨j, hj, rfl⟩ := List.mem_map.1 hx
    obtain ⟨l1, l2, rfl⟩ := List.append_of_mem hj
    rcases zd2 hp l1 j l2 i [] (by simp) with hb | hb
    · rw [hanc j (by simp)] at hb; cases hb
    · exact hb) (.inr hl) h
  rw [List.map_append]
  exact this
def zfE (ops : List Oper) (rc : Oper → Bool) (n : Nat) : Bool :=
  zcZ ops && zad ops rc (zaq ops) (List.range n ++ [n]) && zad ops rc (zaq ops) (List.range n ++ [n + 1]) && decide (ops.length = n + 2)
theorem zlF {K : Exit → zk → St → Prop} {A : zk} {σ : St} {id : Nat} {ops : List Oper} (n : Nat) (rc : Oper → Bool) (hm : P.follows .mixedOrders = true) (hc : zfE ops rc n = true)
    (h : dops P N ((List.range n).map (zU ops rc)) A σ fun A' σ' => dops P N [zU ops rc n, zU ops rc (n + 1)] A' σ' (K .normal) ∧ dops P N [zU ops rc (n + 1), zU ops rc n] A' σ' (K .normal)) :
    AWP P r N (.region id ops.toArray true) K A σ := by
  intro S a hS hT
  simp only [zfE, Bool.and_eq_true, decide_eq_true_eq] at hc
  obtain ⟨⟨⟨h1, h2⟩, h3⟩, h4⟩ := hc
  refine wpIn_region_any hm ?_
  have hk := zgk S
  let S1 : Ctx := { S with w := { S.w with drawn := S.w.drawn + 1 } }
  have hS1 : SRel σ S1 := ⟨hS.kn, fun i o hi => by
    obtain ⟨g1, g2, g3, g4⟩ := hS.live i o hi
    exact ⟨g1, g2, g3, OBRel.mono hk g1 rfl g4⟩, hS.inj, hS.gl.ev hk⟩
  let J : List Nat → zk → St → Prop := fun L A σ => (zad ops rc (zaq ops) L = true ∧ dops P N (L.map (zU ops rc)) A σ (K .normal)) ∨
    ∃ L', L = L' ++ [n, n + 1] ∧ zad ops rc (zaq ops) (L' ++ [n]) = true ∧ zad ops rc (zaq ops) (L' ++ [n + 1]) = true ∧
      dops P N (L'.map (zU ops rc)) A σ fun A' σ' => dops P N [zU ops rc n, zU ops rc (n + 1)] A' σ' (K .normal) ∧ dops P N [zU ops rc (n + 1), zU ops rc n] A' σ' (K .normal)
  have key := zjo (P := P) (N := N) (r := r) (ops := ops) (rc := rc) (Q := zhH N S K) h1 J ?_ ops.length (List.range n ++ [n, n + 1]) (Array.replicate ops.length false) (A := A) (σ := σ) (S := S1) (a := a) (by simp) ?_ ?_ ?_ (by simp [h4]) (.inr ⟨_, rfl, h2, h3, h⟩) hS1 (hT.mono hk) ?_
  · have e : ops.toArray.size = ops.length := by simp
    rw [e]; exact key
  · intro L i A σ hnd hi hlt hanc hJ hl
    have front : ∀ (L1 L2 : List Nat) (K' : zk → St → Prop), L = L1 ++ i :: L2 → zad ops rc (zaq ops) (L1 ++ [i]) = true → dops P N ((L1 ++ i :: L2).map (zU ops rc)) A σ K' →
        zae P (zU ops rc i) A σ fun v σ' => dops P N ((L1 ++ L2).map (zU ops rc)) (zD N A (zU ops rc i).o.dst v) σ' K' := fun L1 L2 K' e hp hd =>
      zbS hp (fun j hj => by
        cases hb : ((zaq ops).getD i 0).testBit j with
        | false => rfl
        | true => exact absurd (by rw [e]; simp [hj]) (hanc j hb)) hl hd
    rcases hJ with ⟨hp, hd⟩ | ⟨L', rfl, hp1, hp2, hd⟩
    · obtain ⟨L1, L2, rfl⟩ := List.append_of_mem hi
      have hn : i ∉ L1 := fun hx => by
        rw [List.nodup_append] at hnd
        exact hnd.2.2 i hx i (by simp) rfl
      rw [show (L1 ++ i :: L2).erase i = L1 ++ L2 by rw [List.erase_append_right _ hn, List.erase_cons_head]]
      exact zR (fun v σ' q => .inl ⟨zah (by simp) hp, q⟩) (front L1 L2 _ rfl (zah (by simp) hp) hd)
    · have hn : n ∉ L' := fun hx => by
        rw [List.nodup_append] at hnd
        exact hnd.2.2 n hx n (by simp) rfl
      have hn1 : n + 1 ∉ L' := fun hx => by
        rw [List.nodup_append] at hnd
        exact hnd.2.2 (n + 1) hx (n + 1) (by simp) rfl
      simp only [List.mem_append, List.mem_cons, List.not_mem_nil, or_false] at hi
      rcases hi with hi | rfl | rfl
      · obtain ⟨L1, L2, rfl⟩ := List.append_of_mem hi
        have hx : i ∉ L1 := fun hx => by
          rw [List.append_assoc, List.nodup_append] at hnd
          exact hnd.2.2 i hx i (by simp) rfl
        have he : (L1 ++ i :: L2 ++ [n, n + 1]).erase i = (L1 ++ L2) ++ [n, n + 1] := by
          rw [List.append_assoc, List.erase_append_right _ hx, List.cons_append, List.erase_cons_head, List.append_assoc]
        rw [he]
        refine zR (fun v σ' q => .inr ⟨L1 ++ L2, rfl, zah ?_ hp1, zah ?_ hp2, q⟩) (zbS (L1 := L1) (L2 := L2) (zah ?_ hp1) (fun j hj => ?_) hl hd)
        · exact List.Sublist.append (List.Sublist.append (List.Sublist.refl _) (List.sublist_cons_self _ _)) (List.Sublist.refl _)
        · exact List.Sublist.append (List.Sublist.append (List.Sublist.refl _) (List.sublist_cons_self _ _)) (List.Sublist.refl _)
        · rw [List.append_assoc]
          exact List.Sublist.append (List.Sublist.refl _) (by simp)
        · cases hb : ((zaq ops).getD i 0).testBit j with
          | false => rfl
          | true => exact absurd (by simp [hj]) (hanc j hb)
      · rw [show (L' ++ [i, i + 1]).erase i = L' ++ [i + 1] by rw [List.erase_append_right _ hn, List.erase_cons_head]]
        exact zR (fun v σ' q => .inl ⟨hp2, q⟩) (front L' [i + 1] _ rfl hp1 (by
          rw [List.map_append]
          exact (zbD _ _).2 (zc0 (fun A σ q => q.1) _ hd)))
      · rw [show (L' ++ [n, n + 1]).erase (n + 1) = L' ++ [n] by rw [List.erase_append_right _ hn1, List.erase_cons_tail (by simp), List.erase_cons_head]]
        refine zR (fun v σ' q => .inl ⟨hp1, q⟩) (zbS (L1 := L') (L2 := [n]) hp2 (fun j hj => ?_) hl (by
          rw [List.map_append]
          exact (zbD _ _).2 (zc0 (fun A σ q => q.2) _ hd)))
        cases hb : ((zaq ops).getD (n + 1) 0).testBit j with
        | false => rfl
        | true => exact absurd (by simp [hj]) (hanc j hb)
  · intro k o hk hl
    simp only [Array.getD] at hl
    split at hl
    · simp at hl
    · rename_i hlt
      have := (List.getElem?_eq_some_iff.1 hk).1
      simp at hlt
      omega
  · intro i
    simp only [List.mem_append, List.mem_range, List.mem_cons, List.not_mem_nil, or_false, h4]
    constructor
    · intro hi
      have : i < n + 2 := by omega
      exact ⟨this, by simp [Array.getD, h4, this]⟩
    · rintro ⟨hi, _⟩; omega
  · rw [List.nodup_append]
    refine ⟨List.nodup_range, by simp, fun x hx y hy e => ?_⟩
    simp only [List.mem_range, List.mem_cons, List.not_mem_nil, or_false] at hx hy
    omega
  · rintro S' σ' A' a' k1 k2 k3 (⟨_, k4⟩ | ⟨L', e, _⟩)
    · exact ⟨S', A', σ', rfl, hk.trans k1, k2, k3, k4⟩
    · simp at e
def zkl (ops : List Oper) (rc : Oper → Bool) (ls : List Nat) (x y : Nat) : Bool :=
  zcZ ops && zad ops rc (zaq ops) (ls ++ [x]) && zad ops rc (zaq ops) (ls ++ [y]) && decide ((ls ++ [x, y]).length = ops.length) && (ls ++ [x, y]).all (fun i => decide (i < ops.length)) && decide ((ls ++ [x, y]).Nodup)
theorem zlG {L : List Nat} {m : Nat} (h1 : L.Nodup) (h2 : ∀ i ∈ L, i < m) (h3 : L.length = m) (i : Nat) : i ∈ L ↔ i < m := by
  refine ⟨h2 i, fun hi => ?_⟩
  apply Classical.byContradiction
  intro hn
  have := zcp (l := i :: L) (m := List.range m) (List.nodup_cons.2 ⟨hn, h1⟩) fun x hx => by
    rw [List.mem_range]
    rcases List.mem_cons.1 hx with rfl | hx
    · exact hi
    · exact h2 x hx
  simp at this
  omega
theorem zpZ {K : Exit → zk → St → Prop} {A : zk} {σ : St} {id : Nat} {ops : List Oper} (ls : List Nat) (x y : Nat) (rc : Oper → Bool) (hm : P.follows .mixedOrders = true) (hc : zkl ops rc ls x y = true)
    (h : dops P N (ls.map (zU ops rc)) A σ fun A' σ' => dops P N [zU ops rc x, zU ops rc y] A' σ' (K .normal) ∧ dops P N [zU ops rc y, zU ops rc x] A' σ' (K .normal)) :
    AWP P r N (.region id ops.toArray true) K A σ := by
  intro S a hS hT
  simp only [zkl, Bool.and_eq_true, decide_eq_true_eq, List.all_eq_true] at hc
  obtain ⟨⟨⟨⟨⟨h1, h2⟩, h3⟩, h4⟩, h5⟩, h6⟩ := hc
  have hfull := zlG h6 h5 h4
  refine wpIn_region_any hm ?_
  have hk := zgk S
  let S1 : Ctx := { S with w := { S.w with drawn := S.w.drawn + 1 } }
  have hS1 : SRel σ S1 := ⟨hS.kn, fun i o hi => by
    obtain ⟨g1, g2, g3, g4⟩ := hS.live i o hi
    exact ⟨g1, g2, g3, OBRel.mono hk g1 rfl g4⟩, hS.inj, hS.gl.ev hk⟩
  let J : List Nat → zk → St → Prop := fun L A σ => (zad ops rc (zaq ops) L = true ∧ dops P N (L.map (zU ops rc)) A σ (K .normal)) ∨
    ∃ L', L = L' ++ [x, y] ∧ zad ops rc (zaq ops) (L' ++ [x]) = true ∧ zad ops rc (zaq ops) (L' ++ [y]) = true ∧
      dops P N (L'.map (zU ops rc)) A σ fun A' σ' => dops P N [zU ops rc x, zU ops rc y] A' σ' (K .normal) ∧ dops P N [zU ops rc y, zU ops rc x] A' σ' (K .normal)
  have key := zjo (P := P) (N := N) (r := r) (ops := ops) (rc := rc) (Q := zhH N S K) h1 J ?_ ops.length (ls ++ [x, y]) (Array.replicate ops.length false) (A := A) (σ := σ) (S := S1) (a := a) (by simp) ?_ ?_ h6 (by omega) (.inr ⟨_, rfl, h2, h3, h⟩) hS1 (hT.mono hk) ?_
  · have e : ops.toArray.size = ops.length := by simp
    rw [e]; exact key
  · intro L i A σ hnd hi hlt hanc hJ hl
    have front : ∀ (L1 L2 : List Nat) (K' : zk → St → Prop), L = L1 ++ i :: L2 → zad ops rc (zaq ops) (L1 ++ [i]) = true → dops P N ((L1 ++ i :: L2).map (zU ops rc)) A σ K' →
        zae P (zU ops rc i) A σ fun v σ' => dops P N ((L1 ++ L2).map (zU ops rc)) (zD N A (zU ops rc i).o.dst v) σ' K' := fun L1 L2 K' e hp hd =>
      zbS hp (fun j hj => by
        cases hb : ((zaq ops).getD i 0).testBit j with
        | false => rfl
        | true => exact absurd (by rw [e]; simp [hj]) (hanc j hb)) hl hd
    rcases hJ with ⟨hp, hd⟩ | ⟨L', rfl, hp1, hp2, hd⟩
    · obtain ⟨L1, L2, rfl⟩ := List.append_of_mem hi
      have hn : i ∉ L1 := fun hx => by
        rw [List.nodup_append] at hnd
        exact hnd.2.2 i hx i (by simp) rfl
      rw [show (L1 ++ i :: L2).erase i = L1 ++ L2 by rw [List.erase_append_right _ hn, List.erase_cons_head]]
      exact zR (fun v σ' q => .inl ⟨zah (by simp) hp, q⟩) (front L1 L2 _ rfl (zah (by simp) hp) hd)
    · have hn : x ∉ L' := fun hx => by
        rw [List.nodup_append] at hnd
        exact hnd.2.2 x hx x (by simp) rfl
      have hn1 : y ∉ L' := fun hx => by
        rw [List.nodup_append] at hnd
        exact hnd.2.2 y hx y (by simp) rfl
      have hxy : x ≠ y := fun e => by
        rw [List.nodup_append] at hnd
        have := hnd.2.1
        rw [e] at this
        simp at this
      simp only [List.mem_append, List.mem_cons, List.not_mem_nil, or_false] at hi
      rcases hi with hi | rfl | rfl
      · obtain ⟨L1, L2, rfl⟩ := List.append_of_mem hi
        have hx : i ∉ L1 := fun hx => by
          rw [List.append_assoc, List.nodup_append] at hnd
          exact hnd.2.2 i hx i (by simp) rfl
        have he : (L1 ++ i :: L2 ++ [x, y]).erase i = (L1 ++ L2) ++ [x, y] := by
          rw [List.append_assoc, List.erase_append_right _ hx, List.cons_append, List.erase_cons_head, List.append_assoc]
        rw [he]
        refine zR (fun v σ' q => .inr ⟨L1 ++ L2, rfl, zah ?_ hp1, zah ?_ hp2, q⟩) (zbS (L1 := L1) (L2 := L2) (zah ?_ hp1) (fun j hj => ?_) hl hd)
        · exact List.Sublist.append (List.Sublist.append (List.Sublist.refl _) (List.sublist_cons_self _ _)) (List.Sublist.refl _)
        · exact List.Sublist.append (List.Sublist.append (List.Sublist.refl _) (List.sublist_cons_self _ _)) (List.Sublist.refl _)
        · rw [List.append_assoc]
          exact List.Sublist.append (List.Sublist.refl _) (by simp)
        · cases hb : ((zaq ops).getD i 0).testBit j with
          | false => rfl
          | true => exact absurd (by simp [hj]) (hanc j hb)
      · rw [show (L' ++ [i, y]).erase i = L' ++ [y] by rw [List.erase_append_right _ hn, List.erase_cons_head]]
        exact zR (fun v σ' q => .inl ⟨hp2, q⟩) (front L' [y] _ rfl hp1 (by
          rw [List.map_append]
          exact (zbD _ _).2 (zc0 (fun A σ q => q.1) _ hd)))
      · rw [show (L' ++ [x, i]).erase i = L' ++ [x] by rw [List.erase_append_right _ hn1, List.erase_cons_tail (by simpa using hxy), List.erase_cons_head]]
        refine zR (fun v σ' q => .inl ⟨hp1, q⟩) (zbS (L1 := L') (L2 := [x]) hp2 (fun j hj => ?_) hl (by
          rw [List.map_append]
          exact (zbD _ _).2 (zc0 (fun A σ q => q.2) _ hd)))
        cases hb : ((zaq ops).getD i 0).testBit j with
        | false => rfl
        | true => exact absurd (by simp [hj]) (hanc j hb)
  · intro k o hk hl
    simp only [Array.getD] at hl
    split at hl
    · simp at hl
    · rename_i hlt
      have := (List.getElem?_eq_some_iff.1 hk).1
      simp at hlt
      omega
  · intro i
    rw [hfull i]
    constructor
    · intro hi
      exact ⟨hi, by simp [Array.getD, hi]⟩
    · rintro ⟨hi, _⟩; exact hi
  · rintro S' σ' A' a' k1 k2 k3 (⟨_, k4⟩ | ⟨L', e, _⟩)
    · exact ⟨S', A', σ', rfl, hk.trans k1, k2, k3, k4⟩
    · simp at e
def zfF (o : Oper) : Bool := match o.op with | .call { callee := .value _, .. } => true | _ => false
end
end Go.Proofs.YtckabcbfbpejkaaDoor.Av
namespace Go.Proofs.YtckabcbfbpejkaaDoor.Av
set_option linter.unusedVariables false
open Go
set_option linter.unusedSimpArgs false
section
variable {P : Program} {N : Nat} {A : zk} {σ σ0 : St}
theorem zfj {fn : Func} {rv x : AV} {e : Exit} (he : e = .normal ∨ e = .ret) (hx : Ext σ0 σ) (h : zau P σ.m A fn.results = some x) (hg : z7 σ0.m σ.m x = rv) : zdE P fn σ0 rv e A σ :=
  ⟨he, hx.nx, fun i hi => by
    obtain ⟨o, ho⟩ := Option.ne_none_iff_exists'.1 hi
    rw [ho]; exact hx.m i o ho, x, h, by rw [hg]; exact Weaker.refl _⟩
theorem zcI {m' m : zE} {i : Id} {k off : Nat} {es : List AV} {e : AV} (h1 : m' i = none) (h2 : m i = some (.buf es)) (h3 : es[k]? = some e) : zz m' m (.rp i k off) = .pp e.cells off := by
  simp only [zz, h1, h2, h3]
theorem zhM {m' m : zE} {i : Id} {off len : Nat} {es : List AV} (h1 : m' i = none) (h2 : m i = some (.buf es)) (h3 : off + len ≤ es.length) : zz m' m (.rs i off len) = .sl i.sz ((es.drop off).take len) false := by
  simp only [zz, h1, h2, h3, if_true]
theorem zfk (m' m : zE) {K : Id → Prop} (hK : ∀ i, ¬ K i) : ∀ {a : AV}, a.ids K → zz m' m a = a
  | .rp i k off, h => by simp only [AV.ids] at h; exact absurd h (hK i)
  | .rs i off len, h => by simp only [AV.ids] at h; exact absurd h (hK i)
  | .raw _, _ | .agg _, _ | .tup _, _ | .pp _ _, _ | .sl _ _ _, _ | .fn _ _ _, _ | .mp _, _ | .ifc _ _, _ | .any, _ => rfl
theorem zeG (m' m : zE) {K : Id → Prop} (hK : ∀ i, ¬ K i) : ∀ {l : List AV}, zt K l → l.map (zz m' m) = l
  | [], _ => rfl
  | a :: l, h => by
    simp only [zt] at h
    rw [List.map_cons, zfk m' m hK h.1, zeG m' m hK h.2]
theorem zkR (m' m : zE) {a : AV} (h : noIds a) : z7 m' m a = a := by
  have hK : ∀ i : Id, ¬ (fun _ : Id => False) i := fun _ h => h
  unfold noIds at h
  cases a with
  | agg cs => simp only [AV.ids] at h; simp only [z7, zeG m' m hK h]
  | tup vs =>
    simp only [AV.ids] at h
    simp only [z7]
    congr 1
    induction vs with
    | nil => rfl
    | cons v vs ih =>
      simp only [zt] at h
      rw [List.map_cons, ih h.2]
      congr 1
      have h1 := h.1
      split
      · simp only [AV.ids] at h1; rw [zeG m' m hK h1]
      · exact zfk m' m hK h1
  | _ => exact zfk m' m hK h
theorem zce {fn : Func} {rv : AV} {e : Exit} (he : e = .normal ∨ e = .ret) (hn : noIds rv) (hx : Ext σ0 σ) (h : zau P σ.m A fn.results = some rv) : zdE P fn σ0 rv e A σ :=
  zfj he hx h (zkR _ _ hn)
theorem zkS {a b : AV} {l : List AV} (h : Weaker a b) : Weaker (.tup (a :: l)) (.tup (b :: l)) := by
  intro S v hv
  simp only [VRel, LRel] at hv ⊢
  obtain ⟨m, e, u, us, h1, h2, h3⟩ := hv
  exact ⟨m, e, u, us, h1, h _ _ h2, h3⟩
theorem zpk {a b : AV} {l : List AV} (h : Weaker a b) : Weaker (.agg (a :: l)) (.agg (b :: l)) := by
  intro S v hv
  simp only [VRel, LRel] at hv ⊢
  obtain ⟨m, e, u, us, h1, h2, h3⟩ := hv
  exact ⟨m, e, u, us, h1, h _ _ h2, h3⟩
theorem zlH {fn : Func} {rv x : AV} {e : Exit} (he : e = .normal ∨ e = .ret) (hx : Ext σ0 σ) (h : zau P σ.m A fn.results = some x) (hg : Weaker (z7 σ0.m σ.m x) rv) : zdE P fn σ0 rv e A σ :=
  ⟨he, hx.nx, fun i hi => by
    obtain ⟨o, ho⟩ := Option.ne_none_iff_exists'.1 hi
    rw [ho]; exact hx.m i o ho, x, h, hg⟩
theorem zp0 {fn : Func} {e : Exit} {n : Nat} {v : AV} {es : List AV} {u : Value} (he : e = .normal ∨ e = .ret) (h : zau P σ.m A fn.results = some (.tup [v, .raw u])) (hO : OwnL σ0 σ n v es) (hE : Ext σ0 σ) : zdE P fn σ0 (.tup [.sl n es false, .raw u]) e A σ := by
  refine zlH he hE h ?_
  rcases hO with ⟨rfl, rfl⟩ | ⟨j, rfl, hj, hmj, hn⟩
  · exact zkS zcd
  · have e1 : z7 σ0.m σ.m (.tup [.rs j 0 es.length, .raw u]) = .tup [.sl n es false, .raw u] := by
      simp only [z7, List.map_cons, List.map_nil]
      rw [zhM hn hmj (by simp), hj]; simp
    rw [e1]; exact Weaker.refl _
theorem zqw {fn : Func} {e : Exit} {i : Id} {a : AV} (he : e = .normal ∨ e = .ret) (hx : Ext σ0 σ) (h : zau P σ.m A fn.results = some (.rp i 0 0)) (h1 : σ0.m i = none) (h2 : σ.m i = some (.buf [a])) : zdE P fn σ0 (.pp a.cells 0) e A σ :=
  zfj he hx h (by simp only [z7]; exact zcI h1 h2 rfl)
theorem zp1 {fn : Func} {e : Exit} {i : Id} {a : AV} {u : Value} (he : e = .normal ∨ e = .ret) (hx : Ext σ0 σ) (h : zau P σ.m A fn.results = some (.tup [.rp i 0 0, .raw u])) (h1 : σ0.m i = none) (h2 : σ.m i = some (.buf [a])) : zdE P fn σ0 (.tup [.pp a.cells 0, .raw u]) e A σ :=
  zfj he hx h (by simp only [z7, List.map_cons, List.map_nil]; rw [zcI h1 h2 rfl]; rfl)
end
@[simp] theorem zpl {dst : Option Nat} {op : Op} {ty : TypeId} {pos : String} {aft : Array Edge} {gd : Option (Nat × Bool)} : zfF ⟨dst, op, ty, pos, aft, gd⟩ = match op with | .call { callee := .value _, .. } => true | _ => false := (rfl)
def lsO (ks : List Nat) (o : Oper) : Bool := zfF o || (match o.dst with | some d => ks.contains d | none => false)
@[simp] theorem zrH {ks : List Nat} {dst : Option Nat} {op : Op} {ty : TypeId} {pos : String} {aft : Array Edge} {gd : Option (Nat × Bool)} : lsO ks ⟨dst, op, ty, pos, aft, gd⟩ = ((match op with | .call { callee := .value _, .. } => true | _ => false) || (match dst with | some d => ks.contains d | none => false)) := (rfl)
@[simp] theorem zrI {v : Value} : cellOK (.raw v) = v.oneCell' := (rfl)
@[simp] theorem zsb {r : List AV} {o : Nat} : cellOK (.pp r o) = true := (rfl)
@[simp] theorem zsc {i : Id} {k o : Nat} : cellOK (.rp i k o) = true := (rfl)
@[simp] theorem zsd {z : Nat} {es : List AV} {b : Bool} : cellOK (.sl z es b) = true := (rfl)
@[simp] theorem zse {i : Id} {o n : Nat} : cellOK (.rs i o n) = true := (rfl)
@[simp] theorem zsf {f : Fn} {a b : List AV} : cellOK (.fn f a b) = true := (rfl)
@[simp] theorem zsg {i : Id} : cellOK (.mp i) = true := (rfl)
@[simp] theorem zrJ {t : TypeId} {a : AV} : cellOK (.ifc t a) = true := (rfl)
@[simp] theorem zrK {cs : List AV} : cellOK (.agg cs) = false := (rfl)
end Go.Proofs.YtckabcbfbpejkaaDoor.Av
namespace Go.Proofs.YtckabcbfbpejkaaDoor.Av
open Go
set_option linter.unusedSimpArgs false
set_option linter.unusedVariables false
section
variable {P : Program} {r : Option Nat} {N : Nat} {A : zk} {σ : St} {K : Exit → zk → St → Prop}
theorem zlI {S : Ctx} {i : Id} {ents ents' : List (Value × AV)} (hS : SRel σ S) (hm : σ.m i = some (.map ents)) (hp : ents.Perm ents') : SRel (σ.set i (.map ents')) S := by
  refine ⟨hS.kn, fun j o hj => ?_, fun j j' hj hj' e => ?_, hS.gl⟩
  · by_cases e : j = i
    · subst e
      have : o = .map ents' := by
        simp only [St.set, hm, Option.isSome_some, and_self, if_true, Option.some.injEq] at hj
        exact hj.symm
      subst this
      obtain ⟨h1, h2, h3, es, clock, e0, g1, g2, g3⟩ := hS.live j _ hm
      exact ⟨h1, h2, h3, es, clock, e0, g1, g2.trans hp, g3⟩
    · have hj : σ.m j = some o := by simpa [St.set, e] using hj
      exact hS.live j o hj
  · have hn : ∀ j, (σ.set i (.map ents')).m j ≠ none → σ.m j ≠ none := fun j hj => by
      by_cases e : j = i
      · subst e; rw [hm]; simp
      · simpa [St.set, e] using hj
    exact hS.inj j j' (hn j hj) (hn j' hj') e
theorem zqx {c : Code} {i : Id} {ents ents' : List (Value × AV)} (hm : σ.m i = some (.map ents)) (hp : ents.Perm ents') (h : AWP P r N c K A (σ.set i (.map ents'))) : AWP P r N c K A σ :=
  fun S a hS hT => h S a (zlI hS hm hp) hT
theorem zpm {f : FuncId} {args : List AV} {ents : List (Value × AV)} (hpl : zcn (ents.map (·.2)) = true)
    (h : ∀ σ, ACalls P f args σ fun x σ' => ∃ i, x = .mp i ∧ σ'.m i = some (.map ents) ∧ σ.m i = none ∧ Ext σ σ') : MCalls P f args 0 (.map ents) .mp := by
  intro σ slot
  refine ⟨(h σ).1, fun S vs hS hl => ((h σ).2 S vs hS hl).mono ?_⟩
  rintro e w' ⟨S', σ', x, v, rfl, rfl, k, hS', hv, i, rfl, hi, hnone, hE⟩
  let n : Id := ⟨slot, σ.nx slot, 0⟩
  have hnK : ¬ S.K n := fun hK => by have := hS.kn n hK; simp [n] at this
  let S2 : Ctx := { S' with mu := fun j => if j = n then S'.mu i else S'.mu j, K := fun j => S.K j ∨ j = n }
  have hmu : ∀ j, S.K j → S2.mu j = S'.mu j := fun j hj => by
    have : j ≠ n := fun e => hnK (e ▸ hj)
    simp [S2, this]
  have hmun : S2.mu n = S'.mu i := by simp [S2]
  have hsub : Sub (S'.names S.K) S2 := ⟨fun _ h => h, fun _ _ _ => rfl, fun j hj => ⟨hmu j hj, .inl hj⟩, Nat.le_refl _, fun _ _ => rfl⟩
  obtain ⟨i1, i2, i3, es, clock, e0, g1, g2, g3, g4, g5⟩ := hS'.live i _ hi
  simp only [VRel] at hv
  refine ⟨S2, _, .mp n, v, rfl, rfl, ⟨k.size, k.heap, k.O, fun j hj => ⟨(hmu j hj).trans (k.mu j hj).1, .inl hj⟩, k.cells, k.lim, k.io⟩, ⟨?_, ?_, ?_, hS'.gl⟩, ?_, rfl, rfl⟩
  · rintro j (hj | rfl)
    · exact Nat.lt_of_lt_of_le (hS.kn j hj) (St.new_le _ _ _ _ _)
    · simp [St.new, n]
  · intro j o hj
    by_cases e : j = n
    · subst e
      have : o = .map ents := by
        have := zjl (σ := σ) (slot := slot) (sz := 0) (o := .map ents)
        rw [this] at hj
        exact (Option.some.inj hj).symm
      subst this
      have hpl0 : zcn (e0.map (·.2)) = true := by
        have hall : ∀ l : List AV, zcn l = true ↔ ∀ a ∈ l, a.plain = true := by
          intro l
          induction l with
          | nil => simp [zcn]
          | cons a l ih => simp [zcn, ih]
        rw [hall] at hpl ⊢
        exact fun a ha => hpl a ((g2.map _).mem_iff.1 ha)
      exact ⟨.inr rfl, by rw [hmun]; exact i2, by rw [hmun]; exact i3, es, clock, e0, by rw [hmun]; exact g1, g2, g3, LRel.plain _ _ g4 hpl0, g5⟩
    · have hj : σ.m j = some o := by rw [zdP e] at hj; exact hj
      obtain ⟨q1, q2, q3, q4⟩ := hS.live j o hj
      obtain ⟨p1, p2, p3, p4⟩ := hS'.live j o (hE.m j o hj)
      exact ⟨.inl q1, by rw [hmu j q1]; exact p2, by rw [hmu j q1]; exact p3, OBRel.sub hsub q1 (by rfl) (p4.names q4.ids)⟩
  · have hlive : ∀ j, (σ.new slot 0 (.map ents)).m j ≠ none → j ≠ n → σ.m j ≠ none := fun j hj hne => by rwa [zdP hne] at hj
    have hne : ∀ j, σ.m j ≠ none → S2.mu j = S'.mu j ∧ σ'.m j ≠ none ∧ j ≠ i := fun j hj => by
      obtain ⟨o, ho⟩ := Option.ne_none_iff_exists'.1 hj
      exact ⟨hmu j (hS.live j o ho).1, by rw [hE.m j o ho]; simp, fun e => by rw [e, hnone] at ho; cases ho⟩
    intro j j' hj hj' e
    by_cases e1 : j = n <;> by_cases e2 : j' = n
    · rw [e1, e2]
    · obtain ⟨a1, a2, a3⟩ := hne j' (hlive j' hj' e2)
      rw [e1, hmun, a1] at e
      exact absurd (hS'.inj i j' (by rw [hi]; simp) a2 e).symm a3
    · obtain ⟨a1, a2, a3⟩ := hne j (hlive j hj e1)
      rw [e2, hmun, a1] at e
      exact absurd (hS'.inj j i a2 (by rw [hi]; simp) e) a3
    · obtain ⟨a1, a2, a3⟩ := hne j (hlive j hj e1)
      obtain ⟨b1, b2, b3⟩ := hne j' (hlive j' hj' e2)
      rw [a1, b1] at e
      exact hS'.inj j j' a2 b2 e
  · simp only [VRel]
    exact ⟨by rw [hmun]; exact hv.1, .inr rfl⟩
theorem zpn {id : Nat} {ops : List Oper} (n : Nat) (rc : Oper → Bool) (hm : P.follows .mixedOrders = true) (hc : zfE ops rc n = true)
    (h : dops P N ((ops.take n).map (zbt ops rc)) A σ fun A' σ' => dops P N ((ops.drop n).map (zbt ops rc)) A' σ' (K .normal) ∧ dops P N ((ops.drop n).reverse.map (zbt ops rc)) A' σ' (K .normal)) :
    AWP P r N (.region id ops.toArray true) K A σ := by
  have hlen : ops.length = n + 2 := by
    simp only [zfE, Bool.and_eq_true, decide_eq_true_eq] at hc
    exact hc.2
  have hget : ∀ i (hi : i < ops.length), zU ops rc i = zbt ops rc ops[i] := fun i hi => by simp [zU, zbt, List.getElem?_eq_getElem hi]
  refine zlF n rc hm hc ?_
  have e1 : (List.range n).map (zU ops rc) = (ops.take n).map (zbt ops rc) := by
    apply List.ext_getElem
    · simp; omega
    · intro i h1 h2
      have hi : i < n := by simpa using h1
      simp [hget i (by omega)]
  have e2 : ops.drop n = [ops[n], ops[n + 1]] := by
    rw [List.drop_eq_getElem_cons (by omega), List.drop_eq_getElem_cons (by omega), List.drop_of_length_le (by omega)]
  rw [e1, hget n (by omega), hget (n + 1) (by omega)]
  rw [e2] at h
  exact h
end
end Go.Proofs.YtckabcbfbpejkaaDoor.Av
