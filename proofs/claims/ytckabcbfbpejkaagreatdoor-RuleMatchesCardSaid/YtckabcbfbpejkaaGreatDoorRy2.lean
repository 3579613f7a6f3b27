/- Rules: the laws RuleTexts, RuleMatches. Part 2 of 22: AvGlb, AvSt, AvRow, AvObj, AvOp, AvRun, AvIds. -/
import Derived.Test.YtckabcbfbpejkaaGreatDoorRy1
import Derived.Lib.LaidTab
import Derived.Lib.ItoaNum
import Derived.Lib.TrailingZeros
namespace Go.Proofs.YtckabcbfbpejkaaGreatDoor.Av
set_option linter.unusedSimpArgs false
set_option linter.unusedVariables false
open Go
def zhc : Nat := 8
def znN (b : Nat) (c : Array Value) : Prop :=
  (b = 1 → ∃ m, c[0]? = some (.int .i64 m)) ∧ (b = 0 → c = (Lib.pow10Tab.map fun z => Value.int .u64 z).toArray) ∧
  (b = 7 → ∀ j, j < Lib.deBruijn64tab.length → c[j]? = some (.int .u8 (Lib.deBruijn64tab.getD j 0))) ∧
  (b = 2 ∨ b = 3 → ∃ ev, c[0]? = some ev ∧ (ev = .nilIface ∨ ∃ te pe, ev = .iface te pe))
def GlobOK (S : Ctx) : Prop := ∀ b, b < zhc → S.frozen b ∧ ∃ c t fz, S.w.heap[b]? = some (.cells c t fz) ∧ znN b c
theorem GlobOK.ev {S S' : Ctx} (h : GlobOK S) (k : Ev S S') : GlobOK S' := fun b hb => by
  obtain ⟨h1, c, t, fz, h2, h3⟩ := h b hb
  exact ⟨k.frozen h1, c, t, fz, by rw [k.heap b h1.1 h1.2]; exact h2, h3⟩
end Go.Proofs.YtckabcbfbpejkaaGreatDoor.Av
namespace Go.Proofs.YtckabcbfbpejkaaGreatDoor.Av
set_option linter.unusedSimpArgs false
set_option linter.unusedVariables false
open Go
structure St where
  m : Id → Option Ob
  nx : Nat → Nat
  wf : ∀ i, m i ≠ none → i.nonce < nx i.slot
def St.new (σ : St) (slot sz : Nat) (o : Ob) : St where
  m := fun j => if j = ⟨slot, σ.nx slot, sz⟩ then some o else σ.m j
  nx := fun s => if s = slot then σ.nx s + 1 else σ.nx s
  wf := fun j h => by
    by_cases e : j = ⟨slot, σ.nx slot, sz⟩
    · subst e; simp
    · simp only [e, if_false] at h
      have := σ.wf j h
      split
      · exact Nat.lt_succ_of_lt this
      · exact this
theorem St.new_le (σ : St) (slot sz : Nat) (o : Ob) (s : Nat) : σ.nx s ≤ (σ.new slot sz o).nx s := by
  simp only [St.new]; split <;> omega
def St.set (σ : St) (i : Id) (o : Ob) : St where
  m := fun j => if j = i ∧ (σ.m i).isSome = true then some o else σ.m j
  nx := σ.nx
  wf := fun j h => by
    by_cases e : j = i ∧ (σ.m i).isSome = true
    · obtain ⟨rfl, e⟩ := e; exact σ.wf j (fun x => by simp [x] at e)
    · simp only [e, if_false] at h; exact σ.wf j h
def St.del (σ : St) (i : Id) : St where
  m := fun j => if j = i then none else σ.m j
  nx := σ.nx
  wf := fun j h => by
    by_cases e : j = i
    · simp [e] at h
    · simp only [e, if_false] at h; exact σ.wf j h
def OBRel (S : Ctx) (i : Id) : Ob → Prop
  | .buf es => ∃ c t, S.w.heap[S.mu i]? = some (.cells c t (0, 0)) ∧ es.length * i.sz ≤ c.size ∧ ERel S i.sz es (S.mu i) 0
  | .map ents => ∃ (es : Array MapEntry) (clock : Nat) (e0 : List (Value × AV)), S.w.heap[S.mu i]? = some (.map es clock) ∧ e0.Perm ents ∧ es.toList.map (·.key) = e0.map (·.1) ∧ LRel S (e0.map (·.2)) (es.toList.map (·.val)) ∧
      (∀ e ∈ es.toList, e.born < clock) ∧ (es.toList.map (·.born)).Nodup
  | .loop b ps assign body n A st pd => S.mu i = b ∧ ∃ r : Loop, S.w.heap[b]? = some (.loop r) ∧ r.params = ps ∧ r.assign = assign ∧ r.body = body ∧ r.state = st ∧ r.pending = pd ∧ r.tmps.size = n ∧ ∀ t, VRel S (A t) (r.tmps.getD t undef)
  | .bufx es => ∃ c t, S.w.heap[S.mu i]? = some (.cells c t (0, 0)) ∧ es.length * i.sz = c.size ∧ ERel S i.sz es (S.mu i) 0
structure SRel (σ : St) (S : Ctx) : Prop where
  kn : ∀ i, S.K i → i.nonce < σ.nx i.slot
  live : ∀ i o, σ.m i = some o → S.K i ∧ S.mu i < S.w.heap.size ∧ S.O (S.mu i) ∧ OBRel S i o
  inj : ∀ i j, σ.m i ≠ none → σ.m j ≠ none → S.mu i = S.mu j → i = j
  gl : GlobOK S
abbrev zn := Nat → AV
def zS : AV := .raw undef
def put (N : Nat) (A : zn) (d : Nat) (v : AV) : zn := fun t => if t = d ∧ d < N then v else A t
def zK (N : Nat) (A : zn) : Option Nat → AV → zn
  | some d, v => put N A d v
  | none, _ => A
structure TRel (N : Nat) (S : Ctx) (A : zn) (a : Act) : Prop where
  size : a.tmps.size = N
  val : ∀ t, VRel S (A t) (a.tmps.getD t undef)
  defers : ∀ d ∈ a.defers, ∃ D, d = { target := .collected D, args := #[] } ∧ S.frozen D ∧ S.lim ≤ D ∧ S.w.heap[D]? = some (.deferred (some []))
  nodup : a.defers.Nodup
  lim : S.lim ≤ S.w.heap.size
theorem TRel.mono {N : Nat} {S S' : Ctx} {A : zn} {a : Act} (h : TRel N S A a) (k : Ev S S') : TRel N S' A a :=
  ⟨h.size, fun t => VRel.mono k.sub _ _ (h.val t), fun d hd => by
    obtain ⟨D, e, f, l, g⟩ := h.defers d hd
    exact ⟨D, e, k.frozen f, by rw [k.lim]; exact l, (k.heap D f.1 f.2).trans g⟩, h.nodup, by rw [k.lim]; exact Nat.le_trans h.lim k.size⟩
theorem TRel.put {N : Nat} {S : Ctx} {A : zn} {a : Act} (h : TRel N S A a) (d : Option Nat) {r : AV} {v : Value} (hv : VRel S r v) : TRel N S (zK N A d r) (a.put d v) := by
  cases d with
  | none => exact h
  | some d =>
    refine ⟨by simp [Act.put, h.size], fun t => ?_, h.defers, h.nodup, h.lim⟩
    simp only [zK, Av.put, Act.put]
    have hs := h.size
    have hv' := h.val t
    by_cases e : t = d ∧ d < N
    · obtain ⟨rfl, e⟩ := e
      simp only [e, and_self, if_true]
      have : (a.tmps.setIfInBounds t v).getD t undef = v := by
        simp [Array.getD, hs, e]
      rw [this]; exact hv
    · simp only [e, if_false]
      have : (a.tmps.setIfInBounds d v).getD t undef = a.tmps.getD t undef := by
        by_cases e2 : t = d
        · subst e2
          have e3 : ¬ t < a.tmps.size := by rw [hs]; exact fun x => e ⟨rfl, x⟩
          simp [Array.getD, e3]
        · simp only [Array.getD, Array.size_setIfInBounds]
          split
          · rename_i hlt
            simp only [Array.getInternal_eq_getElem]
            exact Array.getElem_setIfInBounds_ne (by simpa using hlt) (fun x => e2 x.symm)
          · rfl
      rw [this]; exact hv'
def z8 : Value → AV
  | .slice none 0 0 => .sl 0 [] true
  | v => .raw v
def zC : Value → AV
  | .agg cs => .agg (cs.toList.map z8)
  | v => z8 v
def zd (A : zn) : Operand → AV
  | .tmp t => A t
  | .const v => zC v
  | .global g => .raw (.pointer (some ⟨g, 0, none⟩))
  | .func f => .fn (.func f) [] []
theorem zcV (S : Ctx) (v : Value) : VRel S (z8 v) v := by
  unfold z8
  split
  · simp [VRel]
  · simp [VRel]
theorem zcC (S : Ctx) : ∀ l : List Value, LRel S (l.map z8) l
  | [] => by simp [LRel]
  | v :: l => by
    simp only [List.map_cons, LRel]
    exact ⟨v, l, rfl, zcV S v, zcC S l⟩
theorem zdt (S : Ctx) (v : Value) : VRel S (zC v) v := by
  unfold zC
  split
  · simp only [VRel]; exact ⟨_, rfl, zcC S _⟩
  · exact zcV S _
theorem TRel.eval {N : Nat} {S : Ctx} {A : zn} {a : Act} (h : TRel N S A a) (x : Operand) : VRel S (zd A x) (a.eval x) := by
  cases x with
  | tmp t => exact h.val t
  | const v => exact zdt S v
  | global g => simp [zd, Act.eval, VRel]
  | func f => simp only [zd, Act.eval, VRel]; exact ⟨_, _, rfl, by simp [LRel], by simp [LRel]⟩
end Go.Proofs.YtckabcbfbpejkaaGreatDoor.Av
namespace Go.Proofs.YtckabcbfbpejkaaGreatDoor.Av
set_option linter.unusedSimpArgs false
set_option linter.unusedVariables false
open Go
theorem LRel.length {S : Ctx} : ∀ {as : List AV} {l : List Value}, LRel S as l → as.length = l.length
  | [], _, h => by simp only [LRel] at h; subst h; rfl
  | a :: as, _, h => by
    simp only [LRel] at h
    obtain ⟨v, vs, rfl, _, h2⟩ := h
    simp [LRel.length h2]
theorem LRel.get {S : Ctx} : ∀ {as : List AV} {l : List Value} {i : Nat} {a : AV}, LRel S as l → as[i]? = some a → ∃ v, l[i]? = some v ∧ VRel S a v
  | [], _, _, _, _, h => by simp at h
  | a :: as, _, 0, b, h, e => by
    simp only [LRel] at h
    obtain ⟨v, vs, rfl, h1, _⟩ := h
    simp at e; subst e
    exact ⟨v, rfl, h1⟩
  | a :: as, _, i + 1, b, h, e => by
    simp only [LRel] at h
    obtain ⟨v, vs, rfl, _, h2⟩ := h
    simp at e
    obtain ⟨u, hu, hr⟩ := LRel.get h2 e
    exact ⟨u, by simpa using hu, hr⟩
theorem LRel.append {S : Ctx} : ∀ {as bs : List AV} {l m : List Value}, LRel S as l → LRel S bs m → LRel S (as ++ bs) (l ++ m)
  | [], _, _, _, h, k => by simp only [LRel] at h; subst h; simpa using k
  | a :: as, bs, _, m, h, k => by
    simp only [LRel] at h
    obtain ⟨v, vs, rfl, h1, h2⟩ := h
    simp only [List.cons_append, LRel]
    exact ⟨v, vs ++ m, rfl, h1, LRel.append h2 k⟩
theorem LRel.drop {S : Ctx} : ∀ {as : List AV} {l : List Value} (i : Nat), LRel S as l → LRel S (as.drop i) (l.drop i)
  | _, _, 0, h => by simpa using h
  | [], _, i + 1, h => by simp only [LRel] at h; subst h; simp [LRel]
  | a :: as, _, i + 1, h => by
    simp only [LRel] at h
    obtain ⟨v, vs, rfl, _, h2⟩ := h
    simpa using LRel.drop i h2
theorem LRel.take {S : Ctx} : ∀ {as : List AV} {l : List Value} (i : Nat), LRel S as l → LRel S (as.take i) (l.take i)
  | _, _, 0, h => by simp [LRel]
  | [], _, i + 1, h => by simp only [LRel] at h; subst h; simp [LRel]
  | a :: as, _, i + 1, h => by
    simp only [LRel] at h
    obtain ⟨v, vs, rfl, h1, h2⟩ := h
    simp only [List.take_succ_cons, LRel]
    exact ⟨v, _, rfl, h1, LRel.take i h2⟩
theorem CRel.get {S : Ctx} {b : Nat} : ∀ {as : List AV} {o i : Nat} {a : AV}, CRel S as b o → as[i]? = some a → ∃ v, S.w.cell? ⟨b, o + i, none⟩ = some v ∧ VRel S a v
  | [], _, _, _, _, h => by simp at h
  | a :: as, o, 0, c, h, e => by
    simp only [CRel] at h
    simp at e; subst e
    exact h.1
  | a :: as, o, i + 1, c, h, e => by
    simp only [CRel] at h
    simp at e
    have := CRel.get h.2 e
    rwa [show o + (i + 1) = o + 1 + i by omega]
theorem CRel.drop {S : Ctx} {b : Nat} : ∀ {as : List AV} {o : Nat} (i : Nat), CRel S as b o → CRel S (as.drop i) b (o + i)
  | _, _, 0, h => by simpa using h
  | [], _, i + 1, _ => by simp [CRel]
  | a :: as, o, i + 1, h => by
    simp only [CRel] at h
    have := CRel.drop i h.2
    rwa [show o + 1 + i = o + (i + 1) by omega] at this
theorem CRel.take {S : Ctx} {b : Nat} : ∀ {as : List AV} {o : Nat} (i : Nat), CRel S as b o → CRel S (as.take i) b o
  | _, _, 0, h => by simp [CRel]
  | [], _, i + 1, _ => by simp [CRel]
  | a :: as, o, i + 1, h => by
    simp only [CRel] at h
    simp only [List.take_succ_cons, CRel]
    exact ⟨h.1, CRel.take i h.2⟩
theorem CRel.append {S : Ctx} {b : Nat} : ∀ {as bs : List AV} {o : Nat}, CRel S as b o → CRel S bs b (o + as.length) → CRel S (as ++ bs) b o
  | [], _, _, _, k => by simpa using k
  | a :: as, bs, o, h, k => by
    simp only [CRel] at h
    simp only [List.cons_append, CRel]
    exact ⟨h.1, CRel.append h.2 (by rw [List.length_cons] at k; rwa [show o + 1 + as.length = o + (as.length + 1) by omega])⟩
theorem CRel.append_left {S : Ctx} {b : Nat} : ∀ {as bs : List AV} {o : Nat}, CRel S (as ++ bs) b o → CRel S as b o
  | [], _, _, _ => by simp [CRel]
  | a :: as, bs, o, h => by
    simp only [List.cons_append, CRel] at h ⊢
    exact ⟨h.1, CRel.append_left h.2⟩
theorem CRel.append_right {S : Ctx} {b : Nat} : ∀ {as bs : List AV} {o : Nat}, CRel S (as ++ bs) b o → CRel S bs b (o + as.length)
  | [], _, _, h => by simpa using h
  | a :: as, bs, o, h => by
    simp only [List.cons_append, CRel] at h
    have := CRel.append_right h.2
    rwa [show o + 1 + as.length = o + (a :: as).length by simp; omega] at this
theorem CRel.cells {S : Ctx} {b : Nat} : ∀ {as : List AV} {o : Nat}, CRel S as b o → ∃ l : List Value, LRel S as l ∧ ∀ j v, l[j]? = some v → S.w.cell? ⟨b, o + j, none⟩ = some v
  | [], _, _ => ⟨[], by simp [LRel], by simp⟩
  | a :: as, o, h => by
    simp only [CRel] at h
    obtain ⟨⟨v, e, hv⟩, h2⟩ := h
    obtain ⟨l, hl, hc⟩ := CRel.cells h2
    refine ⟨v :: l, by simp only [LRel]; exact ⟨v, l, rfl, hv, hl⟩, fun j u hj => ?_⟩
    cases j with
    | zero => simp at hj; subst hj; exact e
    | succ j => simp at hj; have := hc j u hj; rwa [show o + 1 + j = o + (j + 1) by omega] at this
theorem CRel.of_cells {S : Ctx} {b : Nat} : ∀ {as : List AV} {o : Nat} {l : List Value}, LRel S as l → (∀ j v, l[j]? = some v → S.w.cell? ⟨b, o + j, none⟩ = some v) → CRel S as b o
  | [], _, _, _, _ => by simp [CRel]
  | a :: as, o, _, h, k => by
    simp only [LRel] at h
    obtain ⟨v, vs, rfl, h1, h2⟩ := h
    simp only [CRel]
    refine ⟨⟨v, k 0 v rfl, h1⟩, CRel.of_cells h2 fun j u hj => ?_⟩
    have := k (j + 1) u (by simpa using hj)
    rwa [show o + 1 + j = o + (j + 1) by omega]
theorem ERel.get {S : Ctx} {b sz : Nat} : ∀ {es : List AV} {o i : Nat} {e : AV}, ERel S sz es b o → es[i]? = some e → e.cells.length = sz ∧ CRel S e.cells b (o + i * sz)
  | [], _, _, _, _, h => by simp at h
  | a :: es, o, 0, e, h, k => by
    rw [zaO] at h
    simp at k; subst k
    exact ⟨h.1, by simpa using h.2.1⟩
  | a :: es, o, i + 1, e, h, k => by
    rw [zaO] at h
    simp at k
    have := ERel.get h.2.2 k
    rwa [show o + sz + i * sz = o + (i + 1) * sz by rw [Nat.add_mul]; omega] at this
theorem ERel.drop {S : Ctx} {b sz : Nat} : ∀ {es : List AV} {o : Nat} (i : Nat), ERel S sz es b o → ERel S sz (es.drop i) b (o + i * sz)
  | _, _, 0, h => by simpa using h
  | [], _, i + 1, _ => by simp [ERel]
  | a :: as, o, i + 1, h => by
    rw [zaO] at h
    have := ERel.drop i h.2.2
    rwa [show o + sz + i * sz = o + (i + 1) * sz by rw [Nat.add_mul]; omega] at this
theorem ERel.take {S : Ctx} {b sz : Nat} : ∀ {es : List AV} {o : Nat} (i : Nat), ERel S sz es b o → ERel S sz (es.take i) b o
  | _, _, 0, h => by simp [ERel]
  | [], _, i + 1, _ => by simp [ERel]
  | a :: as, o, i + 1, h => by
    rw [zaO] at h
    rw [List.take_succ_cons, zaO]
    exact ⟨h.1, h.2.1, ERel.take i h.2.2⟩
theorem ERel.append {S : Ctx} {b sz : Nat} : ∀ {as bs : List AV} {o : Nat}, ERel S sz as b o → ERel S sz bs b (o + as.length * sz) → ERel S sz (as ++ bs) b o
  | [], _, _, _, k => by simpa using k
  | a :: as, bs, o, h, k => by
    rw [zaO] at h
    rw [List.cons_append, zaO]
    exact ⟨h.1, h.2.1, ERel.append h.2.2 (by rw [List.length_cons, Nat.add_mul, Nat.one_mul] at k; rwa [show o + sz + as.length * sz = o + (as.length * sz + sz) by omega])⟩
def zs (es : List AV) : List AV := es.flatMap AV.cells
theorem ERel.toRow {S : Ctx} {b sz : Nat} : ∀ {es : List AV} {o : Nat}, ERel S sz es b o → (zs es).length = es.length * sz ∧ CRel S (zs es) b o
  | [], _, _ => by simp [zs, CRel]
  | a :: as, o, h => by
    rw [zaO] at h
    obtain ⟨h1, h2, h3⟩ := h
    obtain ⟨k1, k2⟩ := ERel.toRow h3
    unfold zs at *
    rw [List.flatMap_cons]
    refine ⟨by rw [List.length_append, h1, k1, List.length_cons, Nat.add_mul]; omega, CRel.append h2 (by rw [h1]; exact k2)⟩
theorem ERel.of_row {S : Ctx} {b sz : Nat} : ∀ {es : List AV} {o : Nat}, (∀ e ∈ es, e.cells.length = sz) → CRel S (zs es) b o → ERel S sz es b o
  | [], _, _, _ => by simp [ERel]
  | a :: as, o, h, k => by
    have ha := h a (by simp)
    unfold zs at k
    rw [List.flatMap_cons] at k
    rw [zaO]
    refine ⟨ha, k.append_left, ERel.of_row (fun e he => h e (by simp [he])) ?_⟩
    have := k.append_right
    rw [ha] at this
    exact this
theorem ERel.sizes {S : Ctx} {b sz : Nat} : ∀ {es : List AV} {o : Nat}, ERel S sz es b o → ∀ e ∈ es, e.cells.length = sz
  | [], _, _, _, h => by simp at h
  | a :: as, o, h, e, he => by
    rw [zaO] at h
    rcases List.mem_cons.1 he with rfl | he
    · exact h.1
    · exact ERel.sizes h.2.2 e he
def z6 (P : Program) (t : TypeId) : Option Nat := (P.info? t).map (·.size)
def zag (P : Program) (t : TypeId) : Option Nat := (P.info? t).map (·.bytes)
def z7 (P : Program) (t : TypeId) : Option Value := (P.info? t).bind (·.zero)
def zac (P : Program) (t : TypeId) : Option Bool := (P.underlying t).map fun d => match d with | .struct _ | .array _ _ => true | _ => false
theorem zU {P : Program} {t : TypeId} {n : Nat} (h : z6 P t = some n) (w : World) : (sizeOf t).run P w = .ok n w := by
  unfold z6 at h
  cases hi : P.info? t with
  | none => simp [hi] at h
  | some i => simp [hi] at h; subst h; simp [sizeOf, typeInfo, hi]
theorem zbn {P : Program} {t : TypeId} {z : Value} (h : z7 P t = some z) (w : World) : (zeroValue t).run P w = .ok z w := by
  unfold z7 at h
  cases hi : P.info? t with
  | none => simp [hi] at h
  | some i => simp [hi] at h; simp [zeroValue, typeInfo, hi, h]
theorem zdu {P : Program} {t : TypeId} {b : Bool} (h : zac P t = some b) (w : World) : (isAgg t).run P w = .ok b w := by
  unfold zac at h
  cases hi : P.underlying t with
  | none => simp [hi] at h
  | some d =>
    simp only [hi, Option.map_some, Option.some.injEq] at h
    subst h
    simp only [isAgg, underlying, Sem.run_bind, run_program, Result.andThen_ok, hi]
    cases d <;> rfl
def zbb (P : Program) (t : TypeId) (row : List AV) (off : Nat) : Option AV :=
  match zac P t with
  | some true => match z6 P t with
    | some s => if off + s ≤ row.length then some (.agg ((row.drop off).take s)) else none
    | none => none
  | some false => row[off]?
  | none => none
theorem zgu {P : Program} {t : TypeId} {row : List AV} {off : Nat} {r : AV} (h : zbb P t row off = some r) {S : Ctx} {b o : Nat} (hr : CRel S row b o) :
    ∃ v, (loadVar t ⟨b, o + off, none⟩).run P S.w = .ok v S.w ∧ VRel S r v := by
  unfold zbb at h
  cases ha : zac P t with
  | none => simp [ha] at h
  | some ag =>
    cases ag with
    | false =>
      simp only [ha] at h
      obtain ⟨v, hv, hr⟩ := hr.get h
      exact ⟨v, by simp [loadVar, zdu ha, hv], hr⟩
    | true =>
      simp only [ha] at h
      cases hs : z6 P t with
      | none => simp [hs] at h
      | some s =>
        simp only [hs] at h
        by_cases hle : off + s ≤ row.length
        · simp only [hle, if_true, Option.some.injEq] at h
          subst h
          obtain ⟨l, hl, hc⟩ := (CRel.take s (hr.drop off)).cells
          have hlen : l.length = s := by rw [← hl.length]; simp; omega
          refine ⟨.agg l.toArray, ?_, by simp only [VRel]; exact ⟨_, rfl, by simpa using hl⟩⟩
          have hrun := run_loadCells_list (P := P) S.w ⟨b, o + off, none⟩ l (fun j v hj => by
            have := hc j v hj
            rw [show (⟨b, o + off, none⟩ : Addr).add j = ⟨b, o + off + j, none⟩ by unfold Addr.add; split <;> simp_all]
            exact this)
          rw [hlen] at hrun
          simp [loadVar, zdu ha, zU hs, hrun]
        · simp [hle] at h
end Go.Proofs.YtckabcbfbpejkaaGreatDoor.Av
namespace Go.Proofs.YtckabcbfbpejkaaGreatDoor.Av
set_option linter.unusedSimpArgs false
set_option linter.unusedVariables false
open Go
structure SRelM (m : Id → Option Ob) (S : Ctx) : Prop where
  live : ∀ i o, m i = some o → S.K i ∧ S.mu i < S.w.heap.size ∧ S.O (S.mu i) ∧ OBRel S i o
  inj : ∀ i j, m i ≠ none → m j ≠ none → S.mu i = S.mu j → i = j
theorem SRel.m {σ : St} {S : Ctx} (h : SRel σ S) : SRelM σ.m S := ⟨h.live, h.inj⟩
theorem SRelM.s {σ : St} {S : Ctx} (h : SRelM σ.m S) (g : GlobOK S) (k : ∀ i, S.K i → i.nonce < σ.nx i.slot) : SRel σ S := ⟨k, h.live, h.inj, g⟩
theorem zdP {w : World} {b : Nat} {c : Array Value} {t : TypeId} {fz : Nat × Nat} (h : w.heap[b]? = some (.cells c t fz)) (o : Nat) : w.cell? ⟨b, o, none⟩ = c[o]? := by
  simp [World.cell?, h]
theorem zax {w : World} {b : Nat} {c : Array Value} {t : TypeId} {fz : Nat × Nat} (h : w.heap[b]? = some (.cells c t fz)) : cellsOf w b = c.size := by
  simp [cellsOf, World.shape?, h]
theorem zbQ {w w' : World} {b : Nat} (h : w'.heap[b]? = w.heap[b]?) : cellsOf w' b = cellsOf w b := by
  simp [cellsOf, World.shape?, h]
theorem ERel.values {S : Ctx} {i : Id} {es : List AV} {c : Array Value} {t : TypeId} (hb : S.w.heap[S.mu i]? = some (.cells c t (0, 0))) (hE : ERel S i.sz es (S.mu i) 0) :
    LRel S (zs es) (c.toList.take (es.length * i.sz)) ∧ (es.length * i.sz ≤ c.size) := by
  obtain ⟨h1, h2⟩ := hE.toRow
  obtain ⟨l, hl, hc⟩ := h2.cells
  have hlen : l.length = es.length * i.sz := by rw [← hl.length, h1]
  have hle : es.length * i.sz ≤ c.size := by
    rcases Nat.eq_zero_or_pos l.length with h0 | h0
    · omega
    · have := hc (l.length - 1) _ (List.getElem?_eq_getElem (by omega))
      rw [Nat.zero_add, zdP hb] at this
      have := (Array.getElem?_eq_some_iff.1 this).1
      omega
  refine ⟨?_, hle⟩
  have : l = c.toList.take (es.length * i.sz) := by
    apply List.ext_getElem?
    intro j
    by_cases hj : j < l.length
    · have := hc j _ (List.getElem?_eq_getElem hj)
      rw [Nat.zero_add, zdP hb] at this
      rw [List.getElem?_eq_getElem hj, List.getElem?_take_of_lt (by omega), ← Array.getElem?_toList] at *
      exact this.symm
    · rw [List.getElem?_eq_none (by omega), List.getElem?_eq_none (by simp; omega)]
  rw [← this]; exact hl
theorem ERel.of_values {S : Ctx} {b sz : Nat} {es : List AV} {c : Array Value} {t : TypeId} {fz : Nat × Nat} (hb : S.w.heap[b]? = some (.cells c t fz)) {l : List Value} (hl : LRel S (zs es) l)
    (hs : ∀ e ∈ es, e.cells.length = sz) (hc : ∀ (j : Nat) (v : Value), l[j]? = some v → c[j]? = some v) : ERel S sz es b 0 :=
  ERel.of_row hs (CRel.of_cells hl fun j v hj => by rw [Nat.zero_add, zdP hb]; exact hc j v hj)
def Ctx.push (S : Ctx) (w' : World) (i : Id) : Ctx where
  w := w'
  mu := fun j => if j = i then S.w.heap.size else S.mu j
  O := fun b => S.O b ∨ b = S.w.heap.size
  K := fun j => S.K j ∨ j = i
  lim := S.lim
def zcD (w w' : World) (o : Obj) : Prop := w'.heap = w.heap.push o ∧ zjo w w'
theorem zaA {w w' : World} {o : Obj} (hw : w'.heap = w.heap.push o) {b : Nat} (hb : b < w.heap.size) : w'.heap[b]? = w.heap[b]? := by
  rw [hw, Array.getElem?_push_lt hb, Array.getElem?_eq_getElem hb]
theorem za1 {w w' : World} {o : Obj} (hw : w'.heap = w.heap.push o) : w'.heap[w.heap.size]? = some o := by
  rw [hw]; simp
theorem Ev.push {S : Ctx} {w' : World} {o : Obj} (hw : zcD S.w w' o) {i : Id} (hi : ¬ S.K i) : Ev S (S.push w' i) where
  size := by show S.w.heap.size ≤ w'.heap.size; rw [hw.1]; simp
  heap := fun b hb _ => zaA hw.1 hb
  O := fun b hb h => h.resolve_right (Nat.ne_of_lt hb)
  mu := fun j hj => ⟨by
    have e : j ≠ i := fun e => hi (e ▸ hj)
    simp [Ctx.push, e], .inl hj⟩
  cells := fun b hb => zbQ (zaA hw.1 hb)
  lim := rfl
  io := hw.2
theorem OBRel.sub {S S' : Ctx} (k : Sub S S') {i : Id} (hK : S.K i) (hb : S'.w.heap[S.mu i]? = S.w.heap[S.mu i]?) : ∀ {o : Ob}, OBRel S i o → OBRel S' i o
  | .buf es, h => by
    obtain ⟨c, t, h1, h2, h3⟩ := h
    refine ⟨c, t, ?_, h2, ?_⟩
    · rw [(k.mu i hK).1, hb]; exact h1
    · rw [(k.mu i hK).1]; exact ERel.mono k (fun o => World.cell?_of_block hb) es _ h3
  | .map ents, h => by
    obtain ⟨es, clock, e0, h1, h0, h2, h3, h4⟩ := h
    refine ⟨es, clock, e0, ?_, h0, h2, LRel.mono k _ _ h3, h4⟩
    rw [(k.mu i hK).1, hb]; exact h1
  | .loop b ps assign body n A st pd, h => by
    obtain ⟨h0, r, h1, h2, h3, h4, h5, h6, h7, h8⟩ := h
    refine ⟨(k.mu i hK).1.trans h0, r, ?_, h2, h3, h4, h5, h6, h7, fun t => VRel.mono k _ _ (h8 t)⟩
    rw [← h0, hb, h0]; exact h1
  | .bufx es, h => by
    obtain ⟨c, t, h1, h2, h3⟩ := h
    refine ⟨c, t, ?_, h2, ?_⟩
    · rw [(k.mu i hK).1, hb]; exact h1
    · rw [(k.mu i hK).1]; exact ERel.mono k (fun o => World.cell?_of_block hb) es _ h3
theorem OBRel.mono {S S' : Ctx} (k : Ev S S') {i : Id} (hK : S.K i) (hb : S'.w.heap[S.mu i]? = S.w.heap[S.mu i]?) {o : Ob} (h : OBRel S i o) : OBRel S' i o := OBRel.sub k.sub hK hb h
theorem SRelM.push {m : Id → Option Ob} {S : Ctx} (h : SRelM m S) {w' : World} {c : Array Value} {t : TypeId} (hw : zcD S.w w' (.cells c t)) {i : Id} (hi : ¬ S.K i)
    {es : List AV} {l : List Value} (hl : LRel S (zs es) l) (hs : ∀ e ∈ es, e.cells.length = i.sz) (hc : ∀ (j : Nat) (v : Value), l[j]? = some v → c[j]? = some v) (hlen : es.length * i.sz ≤ c.size) :
    SRelM (fun j => if j = i then some (.buf es) else m j) (S.push w' i) where
  live := fun j o hj => by
    have k := Ev.push hw hi
    by_cases e : j = i
    · subst e
      simp only [if_true, Option.some.injEq] at hj
      subst hj
      have hmu : (S.push w' j).mu j = S.w.heap.size := by simp [Ctx.push]
      refine ⟨.inr rfl, ?_, .inr hmu, ?_⟩
      · rw [hmu]; show _ < w'.heap.size; rw [hw.1]; simp
      · refine ⟨c, t, ?_, hlen, ?_⟩
        · rw [hmu]; exact za1 hw.1
        · rw [hmu]; exact ERel.of_values (za1 hw.1) (LRel.mono k.sub _ _ hl) hs hc
    · simp only [e, if_false] at hj
      obtain ⟨h1, h2, h3, h4⟩ := h.live j o hj
      have hmu : (S.push w' i).mu j = S.mu j := by simp [Ctx.push, e]
      refine ⟨.inl h1, ?_, ?_, OBRel.mono k h1 (zaA hw.1 h2) h4⟩
      · rw [hmu]; exact Nat.lt_of_lt_of_le h2 k.size
      · rw [hmu]; exact .inl h3
  inj := fun j j' hj hj' he => by
    have old : ∀ j, j ≠ i → (if j = i then some (Ob.buf es) else m j) ≠ none → S.mu j < S.w.heap.size := fun j e hj => by
      simp only [e, if_false] at hj
      obtain ⟨o, ho⟩ := Option.ne_none_iff_exists'.1 hj
      exact (h.live j o ho).2.1
    by_cases e : j = i
    · by_cases e' : j' = i
      · rw [e, e']
      · have := old j' e' hj'
        simp [Ctx.push, e, e'] at he
        omega
    · by_cases e' : j' = i
      · have := old j e hj
        simp [Ctx.push, e, e'] at he
        omega
      · simp [Ctx.push, e, e'] at he
        simp only [e, if_false] at hj
        simp only [e', if_false] at hj'
        exact h.inj j j' hj hj' he
def Ctx.at (S : Ctx) (w' : World) : Ctx := { S with w := w' }
theorem Ev.write {S : Ctx} {w' : World} {g : Nat} (hO : S.O g) (hsize : w'.heap.size = S.w.heap.size) (hot : ∀ b, b ≠ g → w'.heap[b]? = S.w.heap[b]?) (hcells : cellsOf w' g = cellsOf S.w g) (hio : zjo S.w w') : Ev S (S.at w') where
  size := Nat.le_of_eq hsize.symm
  heap := fun b _ h => hot b (fun e => h (e ▸ hO))
  O := fun _ _ h => h
  mu := fun _ h => ⟨rfl, h⟩
  cells := fun b _ => by
    by_cases e : b = g
    · subst e; exact hcells
    · exact zbQ (hot b e)
  lim := rfl
  io := hio
theorem SRelM.write {m : Id → Option Ob} {S : Ctx} (h : SRelM m S) {i : Id} {es : List AV} (hi : m i = some (.buf es)) {c : Array Value} {t : TypeId} (hb : S.w.heap[S.mu i]? = some (.cells c t (0, 0)))
    {c' : Array Value} (hsz : c'.size = c.size) {es' : List AV} {l : List Value} (hl : LRel S (zs es') l) (hs : ∀ e ∈ es', e.cells.length = i.sz) (hc : ∀ (j : Nat) (v : Value), l[j]? = some v → c'[j]? = some v) (hlen : es'.length * i.sz ≤ c'.size) :
    Ev S (S.at (S.w.setRow (S.mu i) c')) ∧ SRelM (fun j => if j = i then some (.buf es') else m j) (S.at (S.w.setRow (S.mu i) c')) := by
  obtain ⟨hK, hlt, hO, _⟩ := h.live i _ hi
  have hnew := setRow_heap S.w (S.mu i) c c' t (0, 0) hb
  have hot : ∀ b, b ≠ S.mu i → (S.w.setRow (S.mu i) c').heap[b]? = S.w.heap[b]? := fun b e => setRow_other S.w (S.mu i) b c' e
  have k : Ev S (S.at (S.w.setRow (S.mu i) c')) := Ev.write hO (by simp) hot (by rw [zax hnew, zax hb, hsz]) ⟨rfl, rfl, rfl⟩
  refine ⟨k, ⟨fun j o hj => ?_, fun j j' hj hj' he => ?_⟩⟩
  · by_cases e : j = i
    · subst e
      simp only [if_true, Option.some.injEq] at hj
      subst hj
      exact ⟨hK, by simpa [Ctx.at] using hlt, hO, c', t, hnew, hlen, ERel.of_values hnew (LRel.mono k.sub _ _ hl) hs hc⟩
    · simp only [e, if_false] at hj
      obtain ⟨h1, h2, h3, h4⟩ := h.live j o hj
      have hne : S.mu j ≠ S.mu i := fun x => e (h.inj j i (by rw [hj]; simp) (by rw [hi]; simp) x)
      exact ⟨h1, by simpa [Ctx.at] using h2, h3, OBRel.mono k h1 (hot _ hne) h4⟩
  · have old : ∀ j, (if j = i then some (Ob.buf es') else m j) ≠ none → m j ≠ none := fun j hj => by
      by_cases e : j = i
      · subst e; rw [hi]; simp
      · simpa only [e, if_false] using hj
    exact h.inj j j' (old j hj) (old j' hj') he
theorem SRelM.less {m m' : Id → Option Ob} {S : Ctx} (h : SRelM m S) (k : ∀ i o, m' i = some o → m i = some o) : SRelM m' S :=
  ⟨fun i o hi => h.live i o (k i o hi), fun i j hi hj => h.inj i j
    (by obtain ⟨o, ho⟩ := Option.ne_none_iff_exists'.1 hi; rw [k i o ho]; simp) (by obtain ⟨o, ho⟩ := Option.ne_none_iff_exists'.1 hj; rw [k j o ho]; simp)⟩
theorem SRelM.ext {m m' : Id → Option Ob} {S : Ctx} (h : SRelM m S) (k : ∀ i, m' i = m i) : SRelM m' S := h.less fun i o hi => by rw [← k]; exact hi
theorem zeQ {sz off : Nat} {vs : List AV} {e' : AV} : ∀ {es : List AV} {k : Nat} {e : AV}, es[k]? = some e → (∀ e ∈ es, e.cells.length = sz) → off + vs.length ≤ sz →
    e'.cells = e.cells.take off ++ vs ++ e.cells.drop (off + vs.length) → zs (es.set k e') = (zs es).take (k * sz + off) ++ vs ++ (zs es).drop (k * sz + off + vs.length)
  | [], _, _, h, _, _, _ => by simp at h
  | a :: es, 0, e, h, hs, hle, he => by
    simp at h; subst h
    have ha := hs a (by simp)
    simp only [List.set_cons_zero, zs, List.flatMap_cons, Nat.zero_mul, Nat.zero_add]
    rw [he, List.take_append_of_le_length (by omega), List.drop_append_of_le_length (by omega)]
    simp
  | a :: es, k + 1, e, h, hs, hle, he => by
    have ha := hs a (by simp)
    have ih := zeQ (es := es) (k := k) (e := e) (by simpa using h) (fun x hx => hs x (by simp [hx])) hle he
    unfold zs at *
    rw [List.set_cons_succ, List.flatMap_cons, List.flatMap_cons, ih, show (k + 1) * sz + off = a.cells.length + (k * sz + off) by rw [ha, Nat.add_mul]; omega,
      List.take_length_add_append, show a.cells.length + (k * sz + off) + vs.length = a.cells.length + (k * sz + off + vs.length) by omega, List.drop_length_add_append]
    simp
end Go.Proofs.YtckabcbfbpejkaaGreatDoor.Av
namespace Go.Proofs.YtckabcbfbpejkaaGreatDoor.Av
set_option linter.unusedSimpArgs false
set_option linter.unusedVariables false
open Go
inductive Res where
  | val (a : AV)
  | mk (sz : Nat) (es : List AV) (v : Id → AV)
  | wr (i : Id) (es : List AV)
  | mv (old : Id) (es : List AV) (v : Id → AV)
  | mkm (v : Id → AV)
  | wrm (i : Id) (ents : List (Value × AV))
  | wrv (i : Id) (es : List AV) (v : AV)
  | mko (sz : Nat) (o : Ob) (v : Id → AV)
  | wro (i : Id) (o : Ob) (v : AV)
def cellOK : AV → Bool
  | .raw v => v.oneCell'
  | .agg _ | .tup _ | .any => false
  | _ => true
def zN (l : List AV) : Bool := l.all cellOK
abbrev zL := Id → Option Ob
def zde (m : zL) (i : Id) (k : Nat) : Option AV :=
  match m i with
  | some (.buf es) => es[k]?
  | _ => none
def zaF (P : Program) (m : zL) (t : TypeId) : AV → Option AV
  | .pp row off => zbb P t row off
  | .rp i k off => (zde m i k).bind fun e => zbb P t e.cells off
  | _ => none
def zb9 (e : AV) : List AV → AV
  | [c] => c
  | _ => e
def setPart (e : AV) (off : Nat) (vs : List AV) : AV :=
  match e with
  | .agg cs => .agg (cs.take off ++ vs ++ cs.drop (off + vs.length))
  | e => zb9 e vs
def zeA (P : Program) (m : zL) (t : TypeId) (x v : AV) : Option Res :=
  match x with
  | .rp i k off =>
    match m i with
    | some (.buf es) =>
      match es[k]? with
      | some e => if z6 P t = some v.cells.length ∧ off + v.cells.length ≤ e.cells.length ∧ zN v.cells = true then some (.wr i (es.set k (setPart e off v.cells))) else none
      | none => none
    | _ => none
  | _ => none
def zdJ (P : Program) (t : TypeId) : Option Res :=
  match z7 P t with
  | some z => some (.mk (zC z).cells.length [zC z] fun i => .rp i 0 0)
  | none => none
def zgc (v : AV) : Option Res := if zN v.cells = true then some (.mk v.cells.length [v] fun i => .rp i 0 0) else none
def fieldsOf (P : Program) (t : TypeId) : Option (Array Field) :=
  match P.underlying t with
  | some (.struct fs) => some fs
  | _ => none
def zat (P : Program) (t : TypeId) (f : Nat) : Option (TypeId × Nat) := (fieldsOf P t).bind fun fs => (fs[f]?).map fun fd => (fd.type, fd.offset)
def zcj (P : Program) (t : TypeId) : Bool := match fieldsOf P t with | some fs => fs.toList.all fun f => (z6 P f.type).isSome | none => false
def zb1 (P : Program) (t : TypeId) : Option (List (TypeId × Nat)) :=
  (fieldsOf P t).bind fun fs => if (fs.toList.all (fun f => !(f.name == "_")) && !P.stoodInHeld t) = true then some (fs.toList.map fun f => (f.type, f.offset)) else none
def zaa (P : Program) (t : TypeId) : Option TypeId :=
  match P.underlying t with
  | some (.slice e) => some e
  | _ => none
def zck (P : Program) (t : TypeId) (f : Nat) (x : AV) : Option AV :=
  match zat P t f with
  | some (ft, off') => match z6 P ft with
    | some (_ + 1) => match x with
      | .pp row off => some (.pp row (off + off'))
      | .rp i k off => some (.rp i k (off + off'))
      | _ => none
    | _ => none
  | none => none
def zeB (P : Program) (t : TypeId) (f : Nat) (x : AV) : Option AV :=
  match zat P t f with
  | some (ft, off) => match x with
    | .agg cs => zbb P ft cs off
    | _ => none
  | none => none
def zcW (P : Program) (t : TypeId) : List (Nat × AV) → List AV → Option (List AV)
  | [], cs => some cs
  | (i, v) :: rest, cs =>
    match zat P t i with
    | some (ft, off) => if z6 P ft = some v.cells.length ∧ off + v.cells.length ≤ cs.length ∧ zN v.cells = true then zcW P t rest (cs.take off ++ v.cells ++ cs.drop (off + v.cells.length)) else none
    | none => none
def zgd (P : Program) (t : TypeId) (parts : List (Nat × AV)) : Option AV :=
  match z7 P t with
  | some z => if zcj P t = true then (zcW P t parts (zC z).cells).map .agg else none
  | _ => none
def zct (n : Nat) : List (Nat × AV) → List AV → Option (List AV)
  | [], cs => some cs
  | (i, v) :: rest, cs =>
    if v.cells.length = n ∧ i * n + v.cells.length ≤ cs.length ∧ zN v.cells = true then zct n rest (cs.take (i * n) ++ v.cells ++ cs.drop (i * n + v.cells.length)) else none
def zgQ (P : Program) (t : TypeId) (len : Nat) (e : TypeId) (parts : List (Nat × AV)) : Option AV :=
  match z6 P e, z7 P t with
  | some n, some z => (zct n parts (zC z).cells).map .agg
  | _, _ => none
def zcX (n : Nat) : List (Nat × AV) → List AV → Option (List AV)
  | [], es => some es
  | (i, v) :: rest, es => if v.cells.length = n ∧ i < es.length ∧ zN v.cells = true then zcX n rest (es.set i v) else none
def zbz (P : Program) (t : TypeId) (len : Nat) (parts : List (Nat × AV)) : Option Res :=
  match zaa P t with
  | some e => match z6 P e, z7 P e with
    | some n, some z => if len * n ≤ 2 ^ 24 ∧ (zC z).cells.length = n then (zcX n parts (List.replicate len (zC z))).map fun es => .mk n es fun i => .rs i 0 len else none
    | _, _ => none
  | none => none
def zc4 (P : Program) (t : TypeId) (x ix : AV) : Option AV :=
  match zaa P t, ix with
  | some e, .raw (.int _ i) => match z6 P e with
    | some n => match x with
      | .sl sz es _ => if 0 ≤ i then (es[i.toNat]?).bind fun a => if sz = n then some (.pp a.cells 0) else none else none
      | .rs id off len => if 0 ≤ i ∧ i < len ∧ id.sz = n then some (.rp id (off + i.toNat) 0) else none
      | _ => none
    | none => none
  | _, _ => none
def zR (P : Program) (t : TypeId) : Option (Nat × TypeId) := match P.underlying t with | some (.array n e) => some (n, e) | _ => none
def zdQ (P : Program) (len : Nat) (e : TypeId) (x ix : AV) : Option AV :=
  match ix with
  | .raw (.int _ i) => match z6 P e with
    | some n => if 0 ≤ i ∧ i < len then match x with
        | .pp row off => some (.pp row (off + i.toNat * n))
        | .rp id k off => some (.rp id k (off + i.toNat * n))
        | _ => none
      else none
    | none => none
  | _ => none
def zdR (P : Program) (t : TypeId) (x ix : AV) : Option AV := match zR P t with | some (len, e) => zdQ P len e x ix | none => zc4 P t x ix
def zeR (P : Program) (len : Nat) (e : TypeId) (x ix : AV) : Option AV :=
  match x, ix with
  | .agg cs, .raw (.int _ i) => match z6 P e with
    | some n => if 0 ≤ i ∧ i < len then zbb P e cs (i.toNat * n) else none
    | none => none
  | _, _ => none
def zjj (sz : Nat) (es : List AV) (full : Bool) (lo hi : Nat) : AV := .sl sz ((es.take hi).drop lo) (full && hi == es.length)
def zec (i : Id) (off lo hi : Nat) : AV := if lo = 0 ∨ lo < hi then .rs i (off + lo) (hi - lo) else .sl i.sz [] false
def zge (P : Program) (t : TypeId) (x : AV) (lo hi : Option AV) : Option AV :=
  match zaa P t with
  | some e => match z6 P e with
    | some n =>
      let l := match lo with | none => some 0 | some (.raw (.int _ i)) => if 0 ≤ i then some i.toNat else none | _ => none
      match x with
      | .sl sz es full =>
        let h := match hi with | none => some es.length | some (.raw (.int _ i)) => if 0 ≤ i then some i.toNat else none | _ => none
        match l, h with
        | some l, some h => if l ≤ h ∧ h ≤ es.length ∧ (es = [] ∨ sz = n) then some (zjj sz es full l h) else none
        | _, _ => none
      | .rs i off len =>
        let h := match hi with | none => some len | some (.raw (.int _ i)) => if 0 ≤ i then some i.toNat else none | _ => none
        match l, h with
        | some l, some h => if l ≤ h ∧ h ≤ len ∧ i.sz = n then some (zec i off l h) else none
        | _, _ => none
      | _ => none
    | none => none
  | none => none
def zcE : Option AV → Option Nat
  | some (.raw (.int _ i)) => if 0 ≤ i then some i.toNat else none
  | _ => none
def zdS (P : Program) (t : TypeId) (x : AV) (lo hi : Option AV) (mx : AV) : Option AV :=
  match zaa P t with
  | some e => match z6 P e with
    | some n =>
      let l := match lo with | none => some 0 | some (.raw (.int _ i)) => if 0 ≤ i then some i.toNat else none | _ => none
      match x with
      | .sl sz es full =>
        match l, zcE hi, zcE (some mx) with
        | some l, some h, some c => if l ≤ h ∧ h ≤ c ∧ c ≤ es.length ∧ (es = [] ∨ sz = n) then some (.sl sz ((es.take h).drop l) (h == c)) else none
        | _, _, _ => none
      | .rs i off len =>
        match l, zcE hi, zcE (some mx) with
        | some l, some h, some c => if l ≤ h ∧ h ≤ c ∧ c ≤ len then some .any else none
        | _, _, _ => none
      | _ => none
    | none => none
  | none => none
def zdT (P : Program) (t : TypeId) : Bool := match P.underlying t with | some .string => true | _ => false
def zjp : List AV → AV
  | [a] => a
  | l => .agg l
def zdf (n : Nat) : Nat → List AV → List AV
  | 0, _ => []
  | k + 1, row => zjp (row.take n) :: zdf n k (row.drop n)
def zeS (P : Program) (len : Nat) (e : TypeId) (x : AV) (lo hi : Option AV) : Option AV :=
  match x, lo, hi, z6 P e with
  | .pp row 0, none, none, some n => if row.length = len * n ∧ zN row = true then some (.sl n (zdf n len row) true) else none
  | _, _, _, _ => none
def zm3 (n : Nat) : Option AV → Option Nat
  | none => some n
  | some (.raw (.int _ i)) => if 0 ≤ i then some i.toNat else none
  | _ => none
def zeT (s : ByteArray) (lo hi : Option AV) : Option AV :=
  match zm3 0 lo, zm3 s.size hi with
  | some l, some h => if l ≤ h ∧ h ≤ s.size then some (.raw (.string (s.extract l h))) else none
  | _, _ => none
def zdU (P : Program) (t : TypeId) (x : AV) (lo hi : Option AV) : Option AV :=
  match x with
  | .raw (.string s) => if zdT P t = true then zeT s lo hi else none
  | .pp row off => match zR P t with | some (len, e) => zeS P len e (.pp row off) lo hi | none => none
  | x => zge P t x lo hi
def zhd (op : BinOp) (k : IntKind) (a b : Int) : Option Value :=
  match op with
  | .add => some (.int k (k.wrap (a + b)))
  | .sub => some (.int k (k.wrap (a - b)))
  | .mul => some (.int k (k.wrap (a * b)))
  | .quo => if b = 0 then none else some (.int k (k.wrap (a.tdiv b)))
  | .rem => if b = 0 then none else some (.int k (a.tmod b))
  | .and => some (.int k (k.wrap (BitVec.ofInt k.bits a &&& BitVec.ofInt k.bits b).toNat))
  | .or => some (.int k (k.wrap (BitVec.ofInt k.bits a ||| BitVec.ofInt k.bits b).toNat))
  | .xor => some (.int k (k.wrap (BitVec.ofInt k.bits a ^^^ BitVec.ofInt k.bits b).toNat))
  | .eql => some (.bool (decide (a = b)))
  | .neq => some (.bool (decide (a ≠ b)))
  | .lss => some (.bool (decide (a < b)))
  | .leq => some (.bool (decide (a ≤ b)))
  | .gtr => some (.bool (decide (b < a)))
  | .geq => some (.bool (decide (b ≤ a)))
  | _ => none
def zeU (op : BinOp) (k : IntKind) (a b : Int) : Option Value :=
  match op with
  | .shl => if 0 ≤ b then some (.int k (k.wrap (a * 2 ^ (min b.toNat k.bits)))) else none
  | .shr => if 0 ≤ b then some (.int k (a.fdiv (2 ^ (min b.toNat k.bits)))) else none
  | _ => none
def zgf : BinOp → Bool
  | .shl | .shr => true
  | _ => false
def zhe (op : BinOp) (a b : ByteArray) : Option Value :=
  match op with
  | .add => if ((a.size + b.size : Nat) : Int) ≤ IntKind.i64.max then some (.string (a ++ b)) else none
  | .eql => some (.bool (a.toList == b.toList))
  | .neq => some (.bool (!(a.toList == b.toList)))
  | .lss => some (.bool (Op.bytesLess a.toList b.toList))
  | _ => none
def zic (op : BinOp) (a b : Bool) : Option Value :=
  match op with
  | .eql => some (.bool (a == b))
  | .neq => some (.bool (!(a == b)))
  | _ => none
def zbc (op : BinOp) (isNil : Bool) : Option Value :=
  match op with
  | .eql => some (.bool isNil)
  | .neq => some (.bool (!isNil))
  | _ => none
def zcg (P : Program) (t : TypeId) : Option IntKind := match P.underlying t with | some (.int k) => some k | _ => none
def zjq (P : Program) (t : TypeId) : Bool := match P.underlying t with | some (.pointer _) => true | _ => false
def zeV (P : Program) (t : TypeId) : Bool := match P.underlying t with | some .bool => true | _ => false
def zfA (P : Program) (t : TypeId) : Bool := match P.underlying t with | some (.interface _) => true | _ => false
def zeC (P : Program) (t : TypeId) : AV → AV → Option Bool
  | .raw (.int k a), .raw (.int k' b) => if (zcg P t).isSome = true ∧ k = k' then some (decide (a = b)) else none
  | .raw (.bool a), .raw (.bool b) => if zeV P t = true then some (a == b) else none
  | .raw (.string a), .raw (.string b) => if zdT P t = true then some (a.toList == b.toList) else none
  | _, _ => none
def zcp (P : Program) (eq : TypeId → AV → AV → Option Bool) (xs ys : List AV) : List (TypeId × Nat) → Option Bool
  | [] => some true
  | (ft, off) :: fs =>
    match zbb P ft xs off, zbb P ft ys off with
    | some a, some b => match eq ft a b, zcp P eq xs ys fs with
      | some r, some s => some (r && s)
      | _, _ => none
    | _, _ => none
def zaq (P : Program) : Nat → TypeId → AV → AV → Option Bool
  | 0, t, x, y => zeC P t x y
  | d + 1, t, .agg xs, .agg ys => match zb1 P t with
    | some fs => zcp P (zaq P d) xs ys fs
    | none => none
  | _ + 1, t, x, y => zeC P t x y
def zfB : List AV → Option (List Value)
  | [] => some []
  | .raw v :: l => (zfB l).map (v :: ·)
  | _ => none
def zjr : AV → Option Value
  | .raw v => some v
  | .agg cs => (zfB cs).map fun l => .agg l.toArray
  | _ => none
def zbA (P : Program) (t : TypeId) : Bool := (zcg P t).isSome || zeV P t || zdT P t
def zhf (P : Program) (t : TypeId) : AV → Bool
  | .agg cs => match zb1 P t with
    | some fs => fs.all fun f => zbA P f.1 && (zbb P f.1 cs f.2).isSome
    | none => false
  | .raw _ => zbA P t
  | _ => false
def zbd (P : Program) (kt : TypeId) (k : AV) : List (Value × AV) → Option (List (Value × AV) × List (Value × AV))
  | [] => some ([], [])
  | e :: l => match zaq P 4 kt k (zC e.1) with
    | some true => (zbd P kt k l).map fun p => (e :: p.1, p.2)
    | some false => (zbd P kt k l).map fun p => (p.1, e :: p.2)
    | none => none
def zeW (P : Program) (t : TypeId) : Bool := match P.underlying t with | some (.struct _) => true | _ => false
def zdV (P : Program) (t : TypeId) : Option (TypeId × TypeId) := match P.underlying t with | some (.map k e) => some (k, e) | _ => none
def za2 (P : Program) (m : zL) (t : TypeId) (x k : AV) (ok : Bool) : Option AV :=
  match zdV P t, x with
  | some (kt, et), .mp i => match m i with
    | some (.map ents) => if zhf P kt k = true ∧ zeW P kt = true then match zbd P kt k ents with
        | some ([e], _) => some (if ok = true then .tup [e.2, .raw (.bool true)] else e.2)
        | some ([], _) => (z7 P et).map fun z => if ok = true then .tup [zC z, .raw (.bool false)] else zC z
        | _ => none
      else none
    | _ => none
  | _, _ => none
def zaT (P : Program) (m : zL) (t : TypeId) (x k v : AV) : Option Res :=
  match zdV P t, x, zjr k with
  | some (kt, _), .mp i, some kv => match m i with
    | some (.map ents) => if zhf P kt k = true ∧ zeW P kt = true then match zbd P kt k ents with
        | some ([e], b) => if Instr.sameBits 10000 e.1 kv = true then some (.wrm i (b ++ [(kv, v)])) else none
        | some ([], b) => some (.wrm i (b ++ [(kv, v)]))
        | _ => none
      else none
    | _ => none
  | _, _, _ => none
def zfC (P : Program) (op : BinOp) (t : TypeId) (x y : AV) : Option AV :=
  match x, y with
  | .raw (.int k a), .raw (.int k' b) => if zgf op = true then (zeU op k a b).map .raw else if k = k' then (zhd op k a b).map .raw else none
  | .raw (.string a), .raw (.string b) => (zhe op a b).map .raw
  | .raw (.bool a), .raw (.bool b) => if zeV P t = true then (zic op a b).map .raw else none
  | .raw (.pointer none), .raw (.pointer none) => if zjq P t = true then (zbc op true).map .raw else none
  | .raw (.pointer none), .pp _ _ | .raw (.pointer none), .rp _ _ _ | .pp _ _, .raw (.pointer none) | .rp _ _ _, .raw (.pointer none) => if zjq P t = true then (zbc op false).map .raw else none
  | .ifc _ _, .raw .nilIface => if zfA P t = true then (zbc op false).map .raw else none
  | _, _ => none
def zaB (P : Program) (op : BinOp) (t : TypeId) (x y : AV) : Option AV :=
  match x, y with
  | .agg xs, .agg ys => if P.eqGuardType P.depth t = false then (zaq P 4 t (.agg xs) (.agg ys)).bind fun b => (zbc op b).map .raw else none
  | x, y => zfC P op t x y
def zjs (op : UnOp) (x : AV) : Option AV :=
  match op, x with
  | .not, .raw (.bool b) => some (.raw (.bool (!b)))
  | .neg, .raw (.int k n) => some (.raw (.int k (k.wrap (0 - n))))
  | _, _ => none
def zdg (P : Program) (src dst : TypeId) (x : AV) : Option AV :=
  match x with
  | .raw (.int _ n) => if (zcg P src).isSome = true then (zcg P dst).map fun k => .raw (.int k (k.wrap n)) else none
  | _ => none
def zid (P : Program) (t : TypeId) (x ix : AV) : Option AV :=
  match x, ix with
  | .raw (.string s), .raw (.int _ i) => if zdT P t = true ∧ 0 ≤ i then (s[i.toNat]?).map fun b => .raw (.int .u8 b.toNat) else none
  | _, _ => none
def zeX (P : Program) (t : TypeId) (x ix : AV) : Option AV := match zR P t with | some (len, e) => zeR P len e x ix | none => zid P t x ix
def zdW (P : Program) (t : TypeId) (parts : List (Nat × AV)) : Option AV := match zR P t with | some (len, e) => zgQ P t len e parts | none => zgd P t parts
def zlr (P : Program) (t : TypeId) : Bool := match P.underlying t with | some (.map _ _) => true | _ => false
def zca (P : Program) (m : zL) (t : TypeId) (x : AV) : Option AV :=
  match x with
  | .raw (.string s) => if zdT P t = true then some (.raw (.int .i64 s.size)) else none
  | .sl _ es _ => if (zaa P t).isSome = true then some (.raw (.int .i64 es.length)) else none
  | .rs _ _ len => if (zaa P t).isSome = true then some (.raw (.int .i64 len)) else none
  | .raw (.map none) => if zlr P t = true then some (.raw (.int .i64 0)) else none
  | .mp i => if zlr P t = true then (match m i with | some (.map ents) => some (.raw (.int .i64 ents.length)) | _ => none) else none
  | _ => none
def zhg (x y : AV) : Option AV := match x, y with | .raw (.int k a), .raw (.int _ b) => some (.raw (.int k (if b > a then b else a))) | _, _ => none
def zhh (x y : AV) : Option AV := match x, y with | .raw (.int k a), .raw (.int _ b) => some (.raw (.int k (if b < a then b else a))) | _, _ => none
def zfD (x y z : AV) : Option AV := match x, y, z with | .raw (.int k a), .raw (.int _ b), .raw (.int _ c) => some (.raw (.int k (min (min a b) c))) | _, _, _ => none
def zbT (m : zL) : AV → Option (List AV)
  | .sl _ es _ => some es
  | .raw (.slice _ 0 _) => some []
  | .rs i off len => match m i with
    | some (.buf es) => if off + len ≤ es.length then some ((es.drop off).take len) else none
    | _ => none
  | _ => none
def zer : AV → Nat
  | .sl sz _ _ => sz
  | .rs i _ _ => i.sz
  | _ => 0
def zM (P : Program) (m : zL) (t : TypeId) (s x : AV) : Option Res :=
  match zaa P t with
  | some e => match z6 P e, zag P e, z7 P e with
    | some n, some by_, some z => match zbT m x with
      | some ys => if (ys = [] ∨ zer x = n) ∧ (zC z).cells.length = n ∧ 0 < n ∧ 0 < by_ ∧ zN (zs ys) = true then
          match s with
          | .sl sz es full => if full = true ∧ (es = [] ∨ sz = n) ∧ (es.length + ys.length) * by_ ≤ 2 ^ 47 then
              if ys = [] then some (.val s) else some (.mk n (es ++ ys) fun i => .rs i 0 (es.length + ys.length)) else none
          | .rs i off len => match m i with
            | some (.buf es) => if off = 0 ∧ len = es.length ∧ i.sz = n ∧ (es.length + ys.length) * by_ ≤ 2 ^ 47 then some (.mv i (es ++ ys) fun i => .rs i 0 (es.length + ys.length))
              else if off = 0 ∧ len + ys.length ≤ es.length ∧ i.sz = n then some (.wrv i (es.take len ++ ys ++ es.drop (len + ys.length)) (.rs i 0 (len + ys.length))) else none
            | _ => none
          | _ => none
        else none
      | none => none
    | _, _, _ => none
  | none => none
def zdX (P : Program) (t u : TypeId) (s x : AV) : Option Res :=
  match zaa P t, zcg P u with
  | some e, some _ => match z6 P e, zag P e, z7 P e with
    | some n, some by_, some z => match s, x with
      | .sl _ [] true, .raw (.int _ k) => if (zC z).cells.length = n ∧ 0 < n ∧ 0 < by_ ∧ 0 < k ∧ k.toNat * by_ ≤ 2 ^ 47 then some (.mk n (List.replicate k.toNat (zC z)) fun i => .rs i 0 k.toNat) else none
      | _, _ => none
    | _, _, _ => none
  | _, _ => none
def zhi (P : Program) (t : TypeId) (x : AV) : Option AV :=
  match zaa P t, x with
  | some _, .sl _ es true => some (.raw (.int .i64 es.length))
  | _, _ => none
def zdK (P : Program) (m : zL) (t : TypeId) (x : AV) : Option Res :=
  match zaa P t with
  | some e => match z6 P e, z7 P e with
    | some n, some z => match x with
      | .sl _ [] _ => some (.val (.tup []))
      | .rs i off (len + 1) => match m i with
        | some (.buf es) => if i.sz = n ∧ (zC z).cells.length = n ∧ zN (zC z).cells = true ∧ off + (len + 1) ≤ es.length then some (.wrv i (es.take off ++ List.replicate (len + 1) (zC z) ++ es.drop (off + (len + 1))) (.tup [])) else none
        | _ => none
      | _ => none
    | _, _ => none
  | none => none
def zhj (P : Program) (m : zL) (t : TypeId) (d x : AV) : Option Res :=
  match zaa P t with
  | some e => match z6 P e, zbT m x with
    | some n, some ys => if ys = [] ∨ zer x = n then
        match d with
        | .rs i off len => match m i with
          | some (.buf es) => if zN (zs (ys.take len)) = true ∧ i.sz = n ∧ off + len ≤ es.length then some (.wrv i (es.take off ++ ys.take len ++ es.drop (off + min ys.length len)) (.raw (.int .i64 (min ys.length len : Nat)))) else none
          | _ => none
        | _ => none
      else none
    | _, _ => none
  | none => none
def zbo : Operand → Option Bool
  | .const (.slice none 0 0) => some false
  | .const .nilIface => some true
  | _ => none
def zeD (P : Program) (op : BinOp) (t : TypeId) (x : AV) : Option AV :=
  if (zaa P t).isSome = true then match x with
    | .sl _ (_ :: _) _ | .rs _ _ _ => (zbc op false).map .raw
    | .raw (.slice b 0 _) => (zbc op b.isNone).map .raw
    | _ => none
  else none
def zeE (P : Program) (op : BinOp) (t : TypeId) (x : AV) : Option AV :=
  if zfA P t = true then match x with
    | .ifc _ _ => (zbc op false).map .raw
    | .raw .nilIface => (zbc op true).map .raw
    | _ => none
  else none
def zfE (P : Program) (op : BinOp) (t : TypeId) (c : Option Bool) (x y : AV) : Option AV :=
  match c with
  | some false => zeD P op t x
  | some true => zeE P op t x
  | none => zaB P op t x y
def aop (P : Program) (m : zL) (ρ : Operand → AV) (op : Op) : Option Res :=
  match op with
  | .move x | .assign x => some (.val (ρ x))
  | .pick c a b => match ρ c with | .raw (.bool c) => some (.val (if c = true then ρ a else ρ b)) | _ => none
  | .alloc t => zdJ P t
  | .box _ x => zgc (ρ x)
  | .build t parts => (zdW P t (parts.toList.map fun p => (p.1, ρ p.2))).map .val
  | .buildSlice t len parts => zbz P t len (parts.toList.map fun p => (p.1, ρ p.2))
  | .load t a => (zaF P m t (ρ a)).map .val
  | .store t a v => zeA P m t (ρ a) (ρ v)
  | .nilCheck x => match ρ x with
    | .pp row off => some (.val (.pp row off))
    | .rp i k off => some (.val (.rp i k off))
    | _ => none
  | .binOp op t x y _ => (zfE P op t (zbo y) (ρ x) (ρ y)).map .val
  | .unOp op _ x => (zjs op (ρ x)).map .val
  | .convert src dst x => (zdg P src dst (ρ x)).map .val
  | .makeFunc f first caps => some (.val (.fn f (first.toList.map ρ) (caps.toList.map ρ)))
  | .slice t x lo hi none => (zdU P t (ρ x) (lo.map ρ) (hi.map ρ)).map .val
  | .slice t x lo hi (some c) => (zdS P t (ρ x) (lo.map ρ) (hi.map ρ) (ρ c)).map .val
  | .fieldAddr t x f => (zck P t f (ρ x)).map .val
  | .field t x f => (zeB P t f (ρ x)).map .val
  | .indexAddr t x ix => (zdR P t (ρ x) (ρ ix)).map .val
  | .index t x ix => (zeX P t (ρ x) (ρ ix)).map .val
  | .extract t ix => match ρ t with | .tup vs => (vs[ix]?).map .val | _ => none
  | .makeMap _ none => some (.mkm fun i => .mp i)
  | .lookup t x k ok => (za2 P m t (ρ x) (ρ k) ok).map .val
  | .mapUpdate t x k v => zaT P m t (ρ x) (ρ k) (ρ v)
  | .call { callee := .builtin b, args, argTypes } =>
    match b, args.toList with
    | .len, [x] => match argTypes.toList with | [t] => (zca P m t (ρ x)).map .val | _ => none
    | .cap, [x] => match argTypes.toList with | [t] => (zhi P t (ρ x)).map .val | _ => none
    | .clear, [x] => match argTypes.toList with | [t] => zdK P m t (ρ x) | _ => none
    | .copy, [x, y] => match argTypes.toList with | [t, _] => zhj P m t (ρ x) (ρ y) | _ => none
    | .max, [x, y] => (zhg (ρ x) (ρ y)).map .val
    | .min, [x, y] => (zhh (ρ x) (ρ y)).map .val
    | .min, [x, y, z] => (zfD (ρ x) (ρ y) (ρ z)).map .val
    | .append, [x, y] => match argTypes.toList with | [t, u] => if t = u then zM P m t (ρ x) (ρ y) else zdX P t u (ρ x) (ρ y) | _ => none
    | _, _ => none
  | _ => none
end Go.Proofs.YtckabcbfbpejkaaGreatDoor.Av
namespace Go.Proofs.YtckabcbfbpejkaaGreatDoor.Av
set_option linter.unusedSimpArgs false
set_option linter.unusedVariables false
open Go
theorem zdh {S : Ctx} : ∀ {a : AV} {v : Value}, zN a.cells = true → VRel S a v → LRel S a.cells v.cells.toList
  | .agg cs, v, _, h => by
    simp only [VRel] at h
    obtain ⟨l, rfl, hl⟩ := h
    exact hl
  | .raw x, v, h, hv => by
    simp only [VRel] at hv
    subst hv
    cases v <;> simp_all [AV.cells, zN, cellOK, Value.oneCell', Value.cells, LRel, VRel]
  | .tup _, _, h, _ => by simp [AV.cells, zN, cellOK] at h
  | .any, _, h, _ => by simp [AV.cells, zN, cellOK] at h
  | .pp row off, v, _, h => by
    have h' := h
    simp only [VRel] at h
    obtain ⟨b, o, rfl, _⟩ := h
    simpa [AV.cells, Value.cells, LRel] using h'
  | .rp i k off, v, _, h => by
    have h' := h
    simp only [VRel] at h
    obtain ⟨rfl, _⟩ := h
    simpa [AV.cells, Value.cells, LRel] using h'
  | .sl _ _ _, v, _, h => by
    have h' := h
    simp only [VRel] at h
    obtain ⟨b, o, rfl, _⟩ := h
    simp only [AV.cells, Value.cells, LRel]
    exact ⟨_, [], rfl, h', rfl⟩
  | .rs _ _ _, v, _, h => by
    have h' := h
    simp only [VRel] at h
    obtain ⟨b, rfl, _⟩ := h
    simpa [AV.cells, Value.cells, LRel] using h'
  | .fn _ _ _, v, _, h => by
    have h' := h
    simp only [VRel] at h
    obtain ⟨b, o, rfl, _⟩ := h
    simp only [AV.cells, Value.cells, LRel]
    exact ⟨_, [], rfl, h', rfl⟩
  | .mp _, v, _, h => by
    have h' := h
    simp only [VRel] at h
    obtain ⟨rfl, _⟩ := h
    simpa [AV.cells, Value.cells, LRel] using h'
  | .ifc _ _, v, _, h => by
    have h' := h
    simp only [VRel] at h
    obtain ⟨b, rfl, _⟩ := h
    simp only [AV.cells, Value.cells, LRel]
    exact ⟨_, [], rfl, h', rfl⟩
theorem zjt {S : Ctx} {a : AV} {v : Value} (h : cellOK a = true) (hv : VRel S a v) : v.oneCell' = true := by
  cases a <;> simp only [cellOK, Bool.false_eq_true] at h <;> simp only [VRel] at hv
  · subst hv; exact h
  · obtain ⟨b, o, rfl, _⟩ := hv; rfl
  · obtain ⟨rfl, _⟩ := hv; rfl
  · obtain ⟨b, o, rfl, _⟩ := hv; rfl
  · obtain ⟨b, rfl, _⟩ := hv; rfl
  · obtain ⟨b, o, rfl, _⟩ := hv; rfl
  · obtain ⟨rfl, _⟩ := hv; rfl
  · obtain ⟨b, rfl, _⟩ := hv; rfl
theorem zcF {S : Ctx} : ∀ {as : List AV} {l : List Value}, zN as = true → LRel S as l → ∀ v ∈ l, v.oneCell' = true
  | [], _, _, h, v, hv => by simp only [LRel] at h; subst h; simp at hv
  | a :: as, _, hk, h, v, hv => by
    simp only [LRel] at h
    obtain ⟨u, us, rfl, h1, h2⟩ := h
    simp only [zN, List.all_cons, Bool.and_eq_true] at hk
    rcases List.mem_cons.1 hv with rfl | hv
    · exact zjt hk.1 h1
    · exact zcF (by simpa [zN] using hk.2) h2 v hv
theorem zba (S : Ctx) (z : Value) : LRel S (zC z).cells z.cells.toList := by
  unfold zC
  split
  · simp only [AV.cells, Value.cells]; exact zcC S _
  · rename_i h
    have h1 : (z8 z).cells = [z8 z] := by
      unfold z8
      split <;> rfl
    have h2 : z.cells = #[z] := by cases z <;> first | rfl | exact absurd rfl (h _)
    rw [h1, h2]
    simp only [LRel]
    exact ⟨z, [], rfl, zcV S z, rfl⟩
section
variable {P : Program} {m : zL} {S : Ctx}
theorem zm4 (hm : SRelM m S) {i : Id} {k : Nat} {e : AV} (h : zde m i k = some e) : e.cells.length = i.sz ∧ CRel S e.cells (S.mu i) (k * i.sz) ∧ S.K i := by
  unfold zde at h
  cases hi : m i with
  | none => simp [hi] at h
  | some o =>
    cases o with
    | map _ => simp [hi] at h
    | loop _ _ _ _ _ _ _ _ => simp [hi] at h
    | bufx _ => simp [hi] at h
    | buf es =>
      simp only [hi] at h
      obtain ⟨hK, _, _, c, t, _, _, hE⟩ := hm.live i _ hi
      obtain ⟨h1, h2⟩ := hE.get h
      exact ⟨h1, by simpa using h2, hK⟩
theorem zhk (hm : SRelM m S) {t : TypeId} {x r : AV} {v : Value} (h : zaF P m t x = some r) (hx : VRel S x v) :
    ∃ u, (Instr.loadAt t v).run P S.w = .ok u S.w ∧ VRel S r u := by
  cases x <;> simp only [zaF, reduceCtorEq] at h
  · simp only [VRel] at hx
    obtain ⟨b, o, rfl, _, hr⟩ := hx
    obtain ⟨u, hu, hv⟩ := zgu h hr
    exact ⟨u, by simpa [Instr.loadAt, Instr.sureAddr] using hu, hv⟩
  · rename_i i k off
    simp only [VRel] at hx
    obtain ⟨rfl, _⟩ := hx
    cases he : zde m i k with
    | none => simp [he] at h
    | some e =>
      simp only [he, Option.bind_some] at h
      obtain ⟨u, hu, hv⟩ := zgu h (zm4 hm he).2.1
      exact ⟨u, by simpa [Instr.loadAt, Instr.sureAddr] using hu, hv⟩
theorem zaQ (b o n : Nat) : (⟨b, o, none⟩ : Addr).add n = ⟨b, o + n, none⟩ := by unfold Addr.add; split <;> simp_all
theorem zdY {t : TypeId} {f : Nat} {ft : TypeId} {off : Nat} (h : zat P t f = some (ft, off)) : ∃ fs fd, P.underlying t = some (.struct fs) ∧ fs[f]? = some fd ∧ fd.type = ft ∧ fd.offset = off := by
  unfold zat fieldsOf at h
  cases hu : P.underlying t with
  | none => simp [hu] at h
  | some d =>
    cases d <;> simp only [hu, Option.bind_none, reduceCtorEq] at h
    rename_i fs
    simp only [Option.bind_some, Option.map_eq_some_iff] at h
    obtain ⟨fd, hfd, e⟩ := h
    simp only [Prod.mk.injEq] at e
    exact ⟨fs, fd, rfl, hfd, e.1, e.2⟩
theorem zhl {t : TypeId} {f : Nat} {x r : AV} {v : Value} (h : zck P t f x = some r) (hx : VRel S x v) :
    ∃ u, (Instr.fieldAt t v f).run P S.w = .ok u S.w ∧ VRel S r u := by
  unfold zck at h
  cases hfo : zat P t f with
  | none => simp [hfo] at h
  | some p =>
    obtain ⟨ft, off'⟩ := p
    obtain ⟨fs, fd, hu, hf, rfl, rfl⟩ := zdY hfo
    simp only [hfo] at h
    cases hs : z6 P fd.type with
    | none => simp [hs] at h
    | some n =>
      cases n with
      | zero => simp [hs] at h
      | succ n =>
        simp only [hs] at h
        have hplace : ∀ a : Addr, (fieldPlace a fd).run P S.w = .ok (a.add fd.offset) S.w := fun a => by
          simp [fieldPlace, zU hs]
        cases x <;> simp only [Option.some.injEq, reduceCtorEq] at h
        · subst h
          simp only [VRel] at hx
          obtain ⟨b, o, rfl, hb, hr⟩ := hx
          refine ⟨_, by simp [Instr.fieldAt, Instr.sureAddr, run_underlying hu, hf, hplace]; rfl, ?_⟩
          simp only [VRel]
          exact ⟨b, o, by rw [zaQ, Nat.add_assoc], hb, hr⟩
        · subst h
          simp only [VRel] at hx
          obtain ⟨rfl, hk⟩ := hx
          refine ⟨_, by simp [Instr.fieldAt, Instr.sureAddr, run_underlying hu, hf, hplace]; rfl, ?_⟩
          simp only [VRel]
          exact ⟨by rw [zaQ, Nat.add_assoc], hk⟩
theorem zdZ {t : TypeId} {row : List AV} {off : Nat} {r : AV} (h : zbb P t row off = some r) {l : Array Value} (hl : LRel S row l.toList) :
    ∃ v, (part t l off).run P S.w = .ok v S.w ∧ VRel S r v := by
  unfold zbb at h
  cases ha : zac P t with
  | none => simp [ha] at h
  | some ag =>
    cases ag with
    | false =>
      simp only [ha] at h
      obtain ⟨v, hv, hr⟩ := hl.get h
      rw [Array.getElem?_toList] at hv
      exact ⟨v, by simp [part, zdu ha, hv], hr⟩
    | true =>
      simp only [ha] at h
      cases hs : z6 P t with
      | none => simp [hs] at h
      | some s =>
        simp only [hs] at h
        by_cases hle : off + s ≤ row.length
        · simp only [hle, if_true, Option.some.injEq] at h
          subst h
          refine ⟨.agg (l.extract off (off + s)), by simp [part, zdu ha, zU hs], ?_⟩
          simp only [VRel]
          refine ⟨_, rfl, ?_⟩
          have := LRel.take s (hl.drop off)
          rwa [show (l.extract off (off + s)).toList = (l.toList.drop off).take s by rw [Array.toList_extract, List.extract_eq_take_drop]; simp]
        · simp [hle] at h
theorem zkz {t : TypeId} {f : Nat} {x r : AV} {v : Value} (h : zeB P t f x = some r) (hx : VRel S x v) :
    ∃ u, (Instr.field t v f).run P S.w = .ok u S.w ∧ VRel S r u := by
  unfold zeB at h
  cases hfo : zat P t f with
  | none => simp [hfo] at h
  | some p =>
    obtain ⟨ft, off'⟩ := p
    obtain ⟨fs, fd, hu, hf, rfl, rfl⟩ := zdY hfo
    simp only [hfo] at h
    cases x <;> simp only [reduceCtorEq] at h
    simp only [VRel] at hx
    obtain ⟨l, rfl, hl⟩ := hx
    obtain ⟨u, hrun, hr⟩ := zdZ h hl
    exact ⟨u, by simp [Instr.field, run_underlying hu, hf, asAgg, hrun], hr⟩
theorem zhm {t : TypeId} {x ix r : AV} {v vi : Value} (h : zc4 P t x ix = some r) (hx : VRel S x v) (hi : VRel S ix vi) :
    ∃ u, (Instr.indexAt t v vi).run P S.w = .ok u S.w ∧ VRel S r u := by
  unfold zc4 zaa at h
  cases hu : P.underlying t with
  | none => simp [hu] at h
  | some d =>
    cases d <;> simp only [hu, reduceCtorEq] at h
    rename_i e
    split at h
    case h_2 => simp at h
    rename_i e' k i heq
    cases heq
    simp only [VRel] at hi
    subst hi
    cases hs : z6 P e with
    | none => simp [hs] at h
    | some n =>
      simp only [hs] at h
      cases x <;> simp only [reduceCtorEq] at h
      · rename_i sz es full
        by_cases h0 : 0 ≤ i
        · simp only [h0, if_true] at h
          cases hg : es[i.toNat]? with
          | none => simp [hg] at h
          | some a =>
            simp only [hg, Option.bind_some] at h
            by_cases hsz : sz = n
            · simp only [hsz, if_true, Option.some.injEq] at h
              subst h
              simp only [VRel] at hx
              obtain ⟨base, cap, rfl, _, _, h3⟩ := hx
              have hlt : i.toNat < es.length := (List.getElem?_eq_some_iff.1 hg).1
              obtain ⟨b, o, rfl, hb, hE⟩ := h3 (by intro e; rw [e] at hlt; simp at hlt)
              obtain ⟨_, hC⟩ := hE.get hg
              have hlt' : i < (es.length : Int) := by omega
              refine ⟨_, by simp [Instr.indexAt, asIntOf, run_underlying hu, h0, hlt', zU hs, Instr.sureAddr]; rfl, ?_⟩
              simp only [VRel]
              subst hsz
              exact ⟨b, o + i.toNat * sz, by rw [zaQ]; rfl, hb, hC⟩
            · simp [hsz] at h
        · simp [h0] at h
      · rename_i id off len
        by_cases hc : 0 ≤ i ∧ i < len ∧ id.sz = n
        · simp only [hc, and_self, if_true, Option.some.injEq] at h
          subst h
          simp only [VRel] at hx
          obtain ⟨cap, rfl, _, _, _, hk⟩ := hx
          refine ⟨_, by simp [Instr.indexAt, asIntOf, run_underlying hu, hc.1, hc.2.1, zU hs, Instr.sureAddr]; rfl, ?_⟩
          simp only [VRel]
          refine ⟨?_, hk⟩
          rw [zaQ, hc.2.2, Nat.add_mul]; rfl
        · simp only [hc, if_false, reduceCtorEq] at h
end
end Go.Proofs.YtckabcbfbpejkaaGreatDoor.Av
namespace Go.Proofs.YtckabcbfbpejkaaGreatDoor.Av
set_option linter.unusedSimpArgs false
set_option linter.unusedVariables false
open Go
mutual
def AV.ids (K : Id → Prop) : AV → Prop
  | .raw _ | .any => True
  | .agg cs | .tup cs => zx K cs
  | .pp row _ => zx K row
  | .rp i _ _ | .rs i _ _ | .mp i => K i
  | .sl _ es _ => zx K es
  | .fn _ f c => zx K f ∧ zx K c
  | .ifc _ a => a.ids K
def zx (K : Id → Prop) : List AV → Prop
  | [] => True
  | a :: as => a.ids K ∧ zx K as
end
theorem zes {K : Id → Prop} : ∀ {a b : List AV}, zx K (a ++ b) ↔ zx K a ∧ zx K b
  | [], b => by simp [zx]
  | x :: a, b => by simp [zx, zes, and_assoc]
mutual
theorem VRel.ids {S : Ctx} : ∀ (a : AV) (v : Value), VRel S a v → a.ids S.K
  | .raw _, _, _ => by simp only [AV.ids]
  | .agg cs, _, hv => by
    simp only [VRel] at hv; simp only [AV.ids]
    obtain ⟨l, e, hl⟩ := hv
    exact LRel.ids cs _ hl
  | .tup cs, _, hv => by
    simp only [VRel] at hv; simp only [AV.ids]
    obtain ⟨l, e, hl⟩ := hv
    exact LRel.ids cs _ hl
  | .pp row off, _, hv => by
    simp only [VRel] at hv; simp only [AV.ids]
    obtain ⟨b, o, e, hb, hr⟩ := hv
    exact CRel.ids row _ _ hr
  | .rp i k off, _, hv => by
    simp only [VRel] at hv; simp only [AV.ids]
    exact hv.2
  | .sl sz es full, _, hv => by
    simp only [VRel] at hv; simp only [AV.ids]
    obtain ⟨base, cap, e, h1, h2, h3⟩ := hv
    by_cases hne : es = []
    · subst hne; simp only [zx]
    · obtain ⟨b, o, eb, hb, hr⟩ := h3 hne
      exact ERel.ids es _ _ _ hr
  | .rs i off len, _, hv => by
    simp only [VRel] at hv; simp only [AV.ids]
    obtain ⟨cap, e, h1, h2, h3, hk⟩ := hv
    exact hk
  | .fn f first caps, _, hv => by
    simp only [VRel] at hv; simp only [AV.ids]
    obtain ⟨l, m, e, h1, h2⟩ := hv
    exact ⟨LRel.ids first _ h1, LRel.ids caps _ h2⟩
  | .mp i, _, hv => by
    simp only [VRel] at hv; simp only [AV.ids]
    exact hv.2
  | .ifc t a, _, hv => by
    simp only [VRel] at hv; simp only [AV.ids]
    obtain ⟨v, e, hk⟩ := hv
    exact VRel.ids a _ hk
  | .any, _, _ => by simp only [AV.ids]
theorem LRel.ids {S : Ctx} : ∀ (as : List AV) (vs : List Value), LRel S as vs → zx S.K as
  | [], _, hv => by simp only [zx]
  | a :: as, _, hv => by
    simp only [LRel] at hv; simp only [zx]
    obtain ⟨v, vs, e, h1, h2⟩ := hv
    exact ⟨VRel.ids a _ h1, LRel.ids as _ h2⟩
theorem CRel.ids {S : Ctx} : ∀ (as : List AV) (b o : Nat), CRel S as b o → zx S.K as
  | [], _, _, _ => by simp only [zx]
  | a :: as, b, o, hv => by
    simp only [CRel] at hv; simp only [zx]
    obtain ⟨⟨v, e, h1⟩, h2⟩ := hv
    exact ⟨VRel.ids a _ h1, CRel.ids as _ _ h2⟩
theorem ERel.ids {S : Ctx} : ∀ (es : List AV) (sz b o : Nat), ERel S sz es b o → zx S.K es
  | [], _, _, _, _ => by simp only [zx]
  | .agg cs :: es, sz, b, o, hv => by
    simp only [ERel] at hv; simp only [zx, AV.ids]
    exact ⟨CRel.ids cs _ _ hv.2.1, ERel.ids es _ _ _ hv.2.2⟩
  | .raw x :: es, sz, b, o, hv => by
    simp only [ERel] at hv
    obtain ⟨h0, ⟨v, e, h1⟩, h2⟩ := hv
    have := VRel.ids (.raw x) v h1
    unfold zx
    exact ⟨this, ERel.ids es _ _ _ h2⟩
  | .tup x :: es, sz, b, o, hv => by
    simp only [ERel] at hv
    obtain ⟨h0, ⟨v, e, h1⟩, h2⟩ := hv
    have := VRel.ids (.tup x) v h1
    unfold zx
    exact ⟨this, ERel.ids es _ _ _ h2⟩
  | .pp x y :: es, sz, b, o, hv => by
    simp only [ERel] at hv
    obtain ⟨h0, ⟨v, e, h1⟩, h2⟩ := hv
    have := VRel.ids (.pp x y) v h1
    unfold zx
    exact ⟨this, ERel.ids es _ _ _ h2⟩
  | .rp x y z :: es, sz, b, o, hv => by
    simp only [ERel] at hv
    obtain ⟨h0, ⟨v, e, h1⟩, h2⟩ := hv
    have := VRel.ids (.rp x y z) v h1
    unfold zx
    exact ⟨this, ERel.ids es _ _ _ h2⟩
  | .sl x y z :: es, sz, b, o, hv => by
    simp only [ERel] at hv
    obtain ⟨h0, ⟨v, e, h1⟩, h2⟩ := hv
    have := VRel.ids (.sl x y z) v h1
    unfold zx
    exact ⟨this, ERel.ids es _ _ _ h2⟩
  | .rs x y z :: es, sz, b, o, hv => by
    simp only [ERel] at hv
    obtain ⟨h0, ⟨v, e, h1⟩, h2⟩ := hv
    have := VRel.ids (.rs x y z) v h1
    unfold zx
    exact ⟨this, ERel.ids es _ _ _ h2⟩
  | .fn x y z :: es, sz, b, o, hv => by
    simp only [ERel] at hv
    obtain ⟨h0, ⟨v, e, h1⟩, h2⟩ := hv
    have := VRel.ids (.fn x y z) v h1
    unfold zx
    exact ⟨this, ERel.ids es _ _ _ h2⟩
  | .mp x :: es, sz, b, o, hv => by
    simp only [ERel] at hv
    obtain ⟨h0, ⟨v, e, h1⟩, h2⟩ := hv
    have := VRel.ids (.mp x) v h1
    unfold zx
    exact ⟨this, ERel.ids es _ _ _ h2⟩
  | .ifc x y :: es, sz, b, o, hv => by
    simp only [ERel] at hv
    obtain ⟨h0, ⟨v, e, h1⟩, h2⟩ := hv
    have := VRel.ids (.ifc x y) v h1
    unfold zx
    exact ⟨this, ERel.ids es _ _ _ h2⟩
  | .any :: es, sz, b, o, hv => by
    simp only [ERel] at hv
    obtain ⟨h0, ⟨v, e, h1⟩, h2⟩ := hv
    have := VRel.ids (.any) v h1
    unfold zx
    exact ⟨this, ERel.ids es _ _ _ h2⟩
end
def Ctx.names (S : Ctx) (K : Id → Prop) : Ctx := { S with K := K }
mutual
theorem VRel.names {S : Ctx} {K : Id → Prop} : ∀ (a : AV) (v : Value), VRel S a v → a.ids K → VRel (S.names K) a v
  | .raw _, _, hv, _ => by simpa only [VRel] using hv
  | .agg cs, _, hv, hk => by
    simp only [VRel] at hv ⊢; simp only [AV.ids] at hk
    obtain ⟨l, e, hl⟩ := hv
    exact ⟨l, e, LRel.names cs _ hl hk⟩
  | .tup cs, _, hv, hk => by
    simp only [VRel] at hv ⊢; simp only [AV.ids] at hk
    obtain ⟨l, e, hl⟩ := hv
    exact ⟨l, e, LRel.names cs _ hl hk⟩
  | .pp row off, _, hv, hk => by
    simp only [VRel] at hv ⊢; simp only [AV.ids] at hk
    obtain ⟨b, o, e, hb, hr⟩ := hv
    exact ⟨b, o, e, hb, CRel.names row _ _ hr hk⟩
  | .rp i k off, _, hv, hk => by
    simp only [VRel] at hv ⊢; simp only [AV.ids] at hk
    exact ⟨hv.1, hk⟩
  | .sl sz es full, _, hv, hk => by
    simp only [VRel] at hv ⊢; simp only [AV.ids] at hk
    obtain ⟨base, cap, e, h1, h2, h3⟩ := hv
    refine ⟨base, cap, e, h1, h2, fun hne => ?_⟩
    obtain ⟨b, o, eb, hb, hr⟩ := h3 hne
    exact ⟨b, o, eb, hb, ERel.names es _ _ _ hr hk⟩
  | .rs i off len, _, hv, hk => by
    simp only [VRel] at hv ⊢; simp only [AV.ids] at hk
    obtain ⟨cap, e, h1, h2, h3, _⟩ := hv
    exact ⟨cap, e, h1, h2, h3, hk⟩
  | .fn f first caps, _, hv, hk => by
    simp only [VRel] at hv ⊢; simp only [AV.ids] at hk
    obtain ⟨l, m, e, h1, h2⟩ := hv
    exact ⟨l, m, e, LRel.names first _ h1 hk.1, LRel.names caps _ h2 hk.2⟩
  | .mp i, _, hv, hk => by
    simp only [VRel] at hv ⊢; simp only [AV.ids] at hk
    exact ⟨hv.1, hk⟩
  | .ifc t a, _, hv, hk => by
    simp only [VRel] at hv ⊢; simp only [AV.ids] at hk
    obtain ⟨v, e, h⟩ := hv
    exact ⟨v, e, VRel.names a _ h hk⟩
  | .any, _, _, _ => by simp only [VRel]
theorem LRel.names {S : Ctx} {K : Id → Prop} : ∀ (as : List AV) (vs : List Value), LRel S as vs → zx K as → LRel (S.names K) as vs
  | [], _, hv, _ => by simpa only [LRel] using hv
  | a :: as, _, hv, hk => by
    simp only [LRel] at hv ⊢; simp only [zx] at hk
    obtain ⟨v, vs, e, h1, h2⟩ := hv
    exact ⟨v, vs, e, VRel.names a _ h1 hk.1, LRel.names as _ h2 hk.2⟩
theorem CRel.names {S : Ctx} {K : Id → Prop} : ∀ (as : List AV) (b o : Nat), CRel S as b o → zx K as → CRel (S.names K) as b o
  | [], _, _, _, _ => by simp only [CRel]
  | a :: as, b, o, hv, hk => by
    simp only [CRel] at hv ⊢; simp only [zx] at hk
    obtain ⟨⟨v, e, h1⟩, h2⟩ := hv
    exact ⟨⟨v, e, VRel.names a _ h1 hk.1⟩, CRel.names as _ _ h2 hk.2⟩
theorem ERel.names {S : Ctx} {K : Id → Prop} : ∀ (es : List AV) (sz b o : Nat), ERel S sz es b o → zx K es → ERel (S.names K) sz es b o
  | [], _, _, _, _, _ => by simp only [ERel]
  | .agg cs :: es, sz, b, o, hv, hk => by
    simp only [ERel] at hv ⊢; simp only [zx, AV.ids] at hk
    exact ⟨hv.1, CRel.names cs _ _ hv.2.1 hk.1, ERel.names es _ _ _ hv.2.2 hk.2⟩
  | .raw x :: es, sz, b, o, hv, hk => by
    simp only [ERel] at hv ⊢
    unfold zx at hk
    obtain ⟨h0, ⟨v, e, h1⟩, h2⟩ := hv
    exact ⟨h0, ⟨v, e, VRel.names (.raw x) v h1 hk.1⟩, ERel.names es _ _ _ h2 hk.2⟩
  | .tup x :: es, sz, b, o, hv, hk => by
    simp only [ERel] at hv ⊢
    unfold zx at hk
    obtain ⟨h0, ⟨v, e, h1⟩, h2⟩ := hv
    exact ⟨h0, ⟨v, e, VRel.names (.tup x) v h1 hk.1⟩, ERel.names es _ _ _ h2 hk.2⟩
  | .pp x y :: es, sz, b, o, hv, hk => by
    simp only [ERel] at hv ⊢
    unfold zx at hk
    obtain ⟨h0, ⟨v, e, h1⟩, h2⟩ := hv
    exact ⟨h0, ⟨v, e, VRel.names (.pp x y) v h1 hk.1⟩, ERel.names es _ _ _ h2 hk.2⟩
  | .rp x y z :: es, sz, b, o, hv, hk => by
    simp only [ERel] at hv ⊢
    unfold zx at hk
    obtain ⟨h0, ⟨v, e, h1⟩, h2⟩ := hv
    exact ⟨h0, ⟨v, e, VRel.names (.rp x y z) v h1 hk.1⟩, ERel.names es _ _ _ h2 hk.2⟩
  | .sl x y z :: es, sz, b, o, hv, hk => by
    simp only [ERel] at hv ⊢
    unfold zx at hk
    obtain ⟨h0, ⟨v, e, h1⟩, h2⟩ := hv
    exact ⟨h0, ⟨v, e, VRel.names (.sl x y z) v h1 hk.1⟩, ERel.names es _ _ _ h2 hk.2⟩
  | .rs x y z :: es, sz, b, o, hv, hk => by
    simp only [ERel] at hv ⊢
    unfold zx at hk
    obtain ⟨h0, ⟨v, e, h1⟩, h2⟩ := hv
    exact ⟨h0, ⟨v, e, VRel.names (.rs x y z) v h1 hk.1⟩, ERel.names es _ _ _ h2 hk.2⟩
  | .fn x y z :: es, sz, b, o, hv, hk => by
    simp only [ERel] at hv ⊢
    unfold zx at hk
    obtain ⟨h0, ⟨v, e, h1⟩, h2⟩ := hv
    exact ⟨h0, ⟨v, e, VRel.names (.fn x y z) v h1 hk.1⟩, ERel.names es _ _ _ h2 hk.2⟩
  | .mp x :: es, sz, b, o, hv, hk => by
    simp only [ERel] at hv ⊢
    unfold zx at hk
    obtain ⟨h0, ⟨v, e, h1⟩, h2⟩ := hv
    exact ⟨h0, ⟨v, e, VRel.names (.mp x) v h1 hk.1⟩, ERel.names es _ _ _ h2 hk.2⟩
  | .ifc x y :: es, sz, b, o, hv, hk => by
    simp only [ERel] at hv ⊢
    unfold zx at hk
    obtain ⟨h0, ⟨v, e, h1⟩, h2⟩ := hv
    exact ⟨h0, ⟨v, e, VRel.names (.ifc x y) v h1 hk.1⟩, ERel.names es _ _ _ h2 hk.2⟩
  | .any :: es, sz, b, o, hv, hk => by
    simp only [ERel] at hv ⊢
    unfold zx at hk
    obtain ⟨h0, ⟨v, e, h1⟩, h2⟩ := hv
    exact ⟨h0, ⟨v, e, VRel.names (.any) v h1 hk.1⟩, ERel.names es _ _ _ h2 hk.2⟩
end
mutual
theorem AV.ids_mono {K K' : Id → Prop} (h : ∀ i, K i → K' i) : ∀ (a : AV), a.ids K → a.ids K'
  | .raw _, _ | .any, _ => by simp only [AV.ids]
  | .agg cs, hk | .tup cs, hk => by simp only [AV.ids] at hk ⊢; exact zcu h cs hk
  | .pp row _, hk => by simp only [AV.ids] at hk ⊢; exact zcu h row hk
  | .rp i _ _, hk | .rs i _ _, hk | .mp i, hk => by simp only [AV.ids] at hk ⊢; exact h i hk
  | .sl _ es _, hk => by simp only [AV.ids] at hk ⊢; exact zcu h es hk
  | .fn _ f c, hk => by simp only [AV.ids] at hk ⊢; exact ⟨zcu h f hk.1, zcu h c hk.2⟩
  | .ifc _ a, hk => by simp only [AV.ids] at hk ⊢; exact AV.ids_mono h a hk
theorem zcu {K K' : Id → Prop} (h : ∀ i, K i → K' i) : ∀ (as : List AV), zx K as → zx K' as
  | [], _ => by simp only [zx]
  | a :: as, hk => by simp only [zx] at hk ⊢; exact ⟨AV.ids_mono h a hk.1, zcu h as hk.2⟩
end
def Ob.ids (K : Id → Prop) : Ob → Prop
  | .buf es => zx K es
  | .map ents => zx K (ents.map (·.2))
  | .loop _ _ _ _ _ A _ _ => ∀ t, (A t).ids K
  | .bufx es => zx K es
theorem zgR {K : Id → Prop} : ∀ {l : List AV}, zx K l ↔ ∀ a ∈ l, a.ids K
  | [] => by simp [zx]
  | a :: l => by simp only [zx, List.mem_cons, forall_eq_or_imp]; rw [zgR]
theorem ziB {K : Id → Prop} {l m : List (Value × AV)} (h : l.Perm m) : zx K (l.map (·.2)) ↔ zx K (m.map (·.2)) := by
  rw [zgR, zgR]
  exact ⟨fun x a ha => x a ((h.map _).mem_iff.2 ha), fun x a ha => x a ((h.map _).mem_iff.1 ha)⟩
theorem OBRel.ids {S : Ctx} {i : Id} {o : Ob} (h : OBRel S i o) : o.ids S.K := by
  cases o with
  | buf es => obtain ⟨c, t, _, _, h⟩ := h; exact ERel.ids _ _ _ _ h
  | map ents => obtain ⟨es, clock, e0, _, hp, _, h, _⟩ := h; exact (ziB hp).1 (LRel.ids _ _ h)
  | loop b ps assign body n A st pd => obtain ⟨h0, r, h1, h2, h3, h4, h5, h6, h7, h8⟩ := h; exact fun t => VRel.ids _ _ (h8 t)
  | bufx es => obtain ⟨c, t, _, _, h⟩ := h; exact ERel.ids _ _ _ _ h
theorem OBRel.names {S : Ctx} {K : Id → Prop} {i : Id} {o : Ob} (h : OBRel S i o) (hk : o.ids K) : OBRel (S.names K) i o := by
  cases o with
  | buf es => obtain ⟨c, t, h1, h2, h⟩ := h; exact ⟨c, t, h1, h2, ERel.names _ _ _ _ h hk⟩
  | map ents => obtain ⟨es, clock, e0, h1, hp, h2, h, h3⟩ := h; exact ⟨es, clock, e0, h1, hp, h2, LRel.names _ _ h ((ziB hp).2 hk), h3⟩
  | loop b ps assign body n A st pd => obtain ⟨h0, r, h1, h2, h3, h4, h5, h6, h7, h8⟩ := h; exact ⟨h0, r, h1, h2, h3, h4, h5, h6, h7, fun t => VRel.names _ _ (h8 t) (hk t)⟩
  | bufx es => obtain ⟨c, t, h1, h2, h⟩ := h; exact ⟨c, t, h1, h2, ERel.names _ _ _ _ h hk⟩
def noIds (a : AV) : Prop := a.ids fun _ => False
theorem noIds.any {a : AV} (h : noIds a) (K : Id → Prop) : a.ids K := AV.ids_mono (fun _ h => h.elim) a h
end Go.Proofs.YtckabcbfbpejkaaGreatDoor.Av
