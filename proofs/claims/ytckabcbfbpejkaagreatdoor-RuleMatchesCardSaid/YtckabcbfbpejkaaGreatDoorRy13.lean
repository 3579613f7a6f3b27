/- Rules: the laws RuleTexts, RuleMatches. Part 13 of 22: AvRd. -/
import Derived.Test.YtckabcbfbpejkaaGreatDoorRy8
import Derived.ProofKit
import Derived.SizedLaws
import Derived.Deep.Slices
namespace Go.Proofs.YtckabcbfbpejkaaGreatDoor.Av
open Go Go.RowKit Go.ChangeShapes Go.WideShapes
set_option linter.unusedSimpArgs false
set_option linter.unusedVariables false
def zch (W : World) : Ctx := { w := W, mu := fun _ => 0, O := fun _ => False, K := fun _ => False, lim := 0 }
def σ0 : St := ⟨fun _ => none, fun _ => 0, fun _ h => (h rfl).elim⟩
theorem znx (W : World) (g : GlobOK (zch W)) : SRel σ0 (zch W) := ⟨fun _ h => h.elim, fun _ _ h => by simp [σ0] at h, fun _ _ h => (h rfl).elim, g⟩
theorem zl0 {W : World} {S' : Ctx} (h : Ev (zch W) S') : Below W.heap.size W S'.w := ⟨h.io.1, h.io.2.1, h.io.2.2, h.size, fun k hk => h.heap k hk fun x => x⟩
theorem zkf {P : Program} {f : FuncId} {as : List AV} {x : Value} (h : PCalls P f as (.raw x)) {W : World} {vs : Array Value} (g : GlobOK (zch W)) (hl : LRel (zch W) as vs.toList) :
    Calls P f vs W fun e W' => e = .returned x ∧ Below W.heap.size W W' := by
  have k := (h.2 σ0).2 (zch W) vs.toList (znx W g) hl
  have k2 : CallsIn Fence.wide 0 P f vs W (fun e w' => ∃ S' σ' r v, e = .returned v ∧ S'.w = w' ∧ Ev (zch W) S' ∧ SRel σ' S' ∧ VRel S' r v ∧ r = .raw x ∧ σ' = σ0) := by
    rw [Array.toArray_toList] at k
    exact k
  refine (callsIn_wide.1 k2).mono ?_
  rintro e W' ⟨S', σ', r, v, rfl, rfl, k1, k2, k3, rfl, k4⟩
  simp only [VRel] at k3
  subst k3
  exact ⟨rfl, zl0 k1⟩
theorem zfx {H : Type} {enc : TypeId × Value → H} {P : Program} (hl : laidOutB P = true) {W W' : World} (hb : Below W.heap.size W W') {sp : Nat → Bool} :
    ∀ {ts : List TypeId} {vs : List Value} {ds : List (DataW H)} {ps : List MemPlace}, (∀ t ∈ ts, P.readableRec t = true ∧ t < P.types.size) → DataW.TrodAll enc P W 0 (fun _ => true) true ts vs ds ps → (∀ p ∈ ps, p.block < W.heap.size) →
      (∀ p ∈ ps, sp p.block = true) → DataW.TrodAll enc P W' 0 sp true ts vs ds ps
  | [], vs, ds, ps, _, h, _, _ => by
    obtain ⟨rfl, rfl, rfl⟩ := trodAll_nil h
    exact h
  | t :: ts, vs, ds, ps, hr, h, hlt, hs => by
    obtain ⟨v, vs1, d, ds1, a, b, rfl, rfl, rfl, h1, h2⟩ := trodAll_cons h
    refine ⟨a, b, WideElems.Trod_stays hl (hr t (by simp)).1 (hr t (by simp)).2 h1 (fun x hx => hb.same (hlt x (by simp [hx]))) (fun x hx => hs x (by simp [hx])), ?_, rfl⟩
    exact zfx hl hb (fun t ht => hr t (by simp [ht])) h2 (fun p hp => hlt p (by simp [hp])) (fun p hp => hs p (by simp [hp]))
theorem ziW {H : Type} {enc : TypeId × Value → H} {P : Program} {f : Func} {s : ChangeSpec} {handsOn : Bool} {W W' : World} {args : Array Value} {ds gs : List (DataW H)} {before : List MemPlace} {b : Bool} {tb : TypeId}
    (hlo : laidOutB P = true) (hv : s.vars = []) (hr : ∀ t ∈ f.params.toList, P.readableRec t = true ∧ t < P.types.size)
    (hrt : f.resultTypes = #[tb]) (htb : P.underlying tb = some .bool)
    (hfn : ∀ ds : List (DataW H), ds.length = f.params.size → s.fn H ds = { results := [.lit (.bool b)], args := ds })
    (hW : DataW.Whole enc P f.params.toList s.vars false W args.toList ds gs before) (hb : Below W.heap.size W W') :
    s.post enc P f false true handsOn false W args (.bool b) W' := by
  obtain ⟨p, q, hA, hV, rfl, hfz, hnd⟩ := id hW
  rw [hv] at hV
  obtain ⟨rfl, rfl⟩ := trodVars_none hV
  have hlt := hW.lt
  have hlen : ds.length = f.params.size := by
    have : ∀ {ts : List TypeId} {vs : List Value} {ds : List (DataW H)} {ps : List MemPlace}, DataW.TrodAll enc P W 0 (fun _ => true) true ts vs ds ps → ds.length = ts.length := by
      intro ts
      induction ts with
      | nil => intro vs ds ps h; obtain ⟨rfl, rfl, rfl⟩ := trodAll_nil h; rfl
      | cons t ts ih =>
        intro vs ds ps h
        obtain ⟨v, vs1, d, ds1, a, b, rfl, rfl, rfl, h1, h2⟩ := trodAll_cons h
        simp [ih h2]
    simpa using this hA
  have e := hfn ds hlen
  refine ⟨ds, [], p ++ [], [], p, [], hW, ?_, ?_, ?_, hb.frame _, fun h => by simp at h⟩
  · rw [List.append_nil, e, hrt]
    exact trodAll_mk1 (shut_bool htb b)
  · rw [List.append_nil, e]
    exact zfx hlo hb hr hA (fun x hx => hlt x (by simp [hx])) (fun x hx => by simpa using hlt x (by simp [hx]))
  · rw [hv, List.append_nil, e]
    rfl
structure Rds (P : Program) (t : TypeId) (T : Type) (el : T → AV) (ok : T → Prop) : Prop where
  rd : ∀ {H : Type} (enc : TypeId × Value → H) (W : World) (fuel : Nat) (cs : List Value) (x : DataW H × List MemPlace), DataW.trod enc P W 0 (fun _ => true) true fuel t cs = some x →
    (∀ n ∈ x.1.weights P t, n ≤ reachBytes) → ∃ v : T, ok v ∧ LRel (zch W) (el v).cells cs
theorem Rds.map {P : Program} {t : TypeId} {T U : Type} {el : T → AV} {ok : T → Prop} (h : Rds P t T el ok) (g : T → U) {el' : U → AV} {ok' : U → Prop} (he : ∀ v, el' (g v) = el v) (hk : ∀ v, ok v → ok' (g v)) : Rds P t U el' ok' :=
  ⟨fun enc W fuel cs x hx hw => let ⟨v, h1, h2⟩ := h.rd enc W fuel cs x hx hw; ⟨g v, hk v h1, by rw [he]; exact h2⟩⟩
theorem zmP {P : Program} {t : TypeId} {k : IntKind} (ht : P.underlying t = some (.int k)) : Rds P t Int (fun n => .raw (.int k n)) (fun n => (Lit.int k n).wf = true) := Rds.mk <| fun enc W fuel cs x hx hw => by
  obtain ⟨n, rfl, rfl, h⟩ := DataW.trod_int ht hx
  exact ⟨n, h, _, _, rfl, rfl, rfl⟩
theorem zsg {P : Program} {t : TypeId} (ht : P.underlying t = some .bool) : Rds P t Bool (fun n => .raw (.bool n)) (fun n => True) := Rds.mk <| fun enc W fuel cs x hx hw => by
  obtain ⟨n, rfl, rfl⟩ := DataW.trod_bool ht hx
  exact ⟨n, trivial, _, _, rfl, rfl, rfl⟩
theorem zmQ {P : Program} {t : TypeId} (ht : P.underlying t = some .string) : Rds P t ByteArray (fun s => .raw (.string s)) (fun s => s.size ≤ reachBytes) := Rds.mk <| fun enc W fuel cs x hx hw => by
  obtain ⟨n, rfl, rfl, h⟩ := DataW.trod_string ht hx
  refine ⟨n, ?_, _, _, rfl, rfl, rfl⟩
  have := hw n.data.toList.length (by simp [DataW.weights])
  simpa using this
structure RdF (P : Program) (tot off : Nat) (fs : List Field) (T : Type) (cells : T → List AV) (ok : T → Prop) : Prop where
  rd : ∀ {H : Type} (enc : TypeId × Value → H) (W : World) (fuel : Nat) (cs : List Value) (xs : List (DataW H × List MemPlace)), cs.length = tot → xs.length = fs.length →
    (∀ (i : Nat) (f : Field), fs[i]? = some f → DataW.trod enc P W 0 (fun _ => true) true fuel f.type ((cs.drop f.offset).take (P.cellsOf f.type)) = xs[i]?) →
    (∀ n ∈ DataW.weightsEach P (fs.map (·.type)) (xs.map (·.1)), n ≤ reachBytes) → ∃ v : T, ok v ∧ LRel (zch W) (cells v) (cs.drop off)
theorem zgl {P : Program} {tot : Nat} : RdF P tot tot [] Unit (fun _ => []) (fun _ => True) := RdF.mk <| fun enc W fuel cs xs hl hx hf hw => by
  refine ⟨(), trivial, ?_⟩
  rw [List.drop_of_length_le (by omega)]
  exact rfl
theorem za3 {P : Program} {tot off c off2 : Nat} {f : Field} {fs : List Field} {A B : Type} {el : A → AV} {ok : A → Prop} {cells : B → List AV} {ok' : B → Prop} (h : Rds P f.type A el ok) (hc : P.cellsOf f.type = c) (k : RdF P tot off2 fs B cells ok') (ho : f.offset = off) (h2 : off2 = off + c) :
    RdF P tot off (f :: fs) (A × B) (fun p => (el p.1).cells ++ cells p.2) (fun p => ok p.1 ∧ ok' p.2) := RdF.mk <| fun enc W fuel cs xs hl hx hf hw => by
  subst hc
  subst h2
  match xs, hx with
  | x :: xs, hx =>
    simp only [List.map_cons, DataW.weightsEach, List.mem_append] at hw
    have h0 := hf 0 f rfl
    simp only [List.getElem?_cons_zero] at h0
    obtain ⟨v, v1, v2⟩ := h.rd enc W fuel _ x h0 fun n hn => hw n (.inl hn)
    obtain ⟨u, u1, u2⟩ := k.rd enc W fuel cs xs hl (by simpa using hx) (fun i f hi => hf (i + 1) f (by simpa using hi)) fun n hn => hw n (.inr hn)
    refine ⟨(v, u), ⟨v1, u1⟩, ?_⟩
    have e : cs.drop off = (cs.drop off).take (P.cellsOf f.type) ++ cs.drop (off + P.cellsOf f.type) := by
      rw [← List.drop_drop, List.take_append_drop]
    rw [e, ← ho]
    rw [← ho] at u2
    exact LRel.append v2 u2
theorem zek {P : Program} {t : TypeId} {fs : Array Field} {T : Type} {cells : T → List AV} {ok : T → Prop} (ht : P.underlying t = some (.struct fs)) {n : Nat} (hn : P.cellsOf t = n) (h : RdF P n 0 fs.toList T cells ok) : Rds P t T (fun v => .agg (cells v)) ok := Rds.mk <| fun enc W fuel cs x hx hw => by
  obtain ⟨xs, m, rfl, rfl, hl, hx, hf⟩ := DataW.trod_struct ht hx
  simp only [DataW.weights, ht] at hw
  obtain ⟨v, v1, v2⟩ := h.rd enc W m cs xs (hl.trans hn) (by simpa using hx) (fun i f hi => hf i f (by simpa using hi)) hw
  exact ⟨v, v1, by simpa [AV.cells] using v2⟩
theorem zeL {H : Type} {P : Program} {e : TypeId} : ∀ {ds : List (DataW H)} {d : DataW H}, d ∈ ds → ∀ n ∈ d.weights P e, n ∈ DataW.weightsAll P e ds
  | a :: ds, d, h, n, hn => by
    simp only [DataW.weightsAll, List.mem_append]
    rcases List.mem_cons.1 h with rfl | h
    · exact .inl hn
    · exact .inr (zeL h n hn)
theorem zlh {S : Ctx} {b : Nat} : ∀ {as : List AV} {cs : List Value} {o : Nat}, LRel S as cs → (∀ i, i < cs.length → S.w.cell? ⟨b, o + i, none⟩ = cs[i]?) → CRel S as b o
  | [], _, _, _, _ => trivial
  | a :: as, cs, o, h, hc => by
    obtain ⟨v, vs, rfl, h1, h2⟩ := h
    refine ⟨⟨v, by simpa using hc 0 (by simp), h1⟩, zlh h2 fun i hi => ?_⟩
    have := hc (i + 1) (by simp; omega)
    rw [List.getElem?_cons_succ] at this
    rw [← this]
    congr 2
    omega
theorem zkg {a : Addr} (h : a.spot = none) (n : Nat) : a.add n = ⟨a.block, a.off + n, none⟩ := by
  obtain ⟨b, o, sp⟩ := a
  simp only at h
  subst h
  simp only [Addr.add]
  split <;> simp_all
theorem zny {P : Program} {t e : TypeId} {T : Type} {el : T → AV} {ok : T → Prop} {n : Nat} (ht : P.underlying t = some (.slice e)) (h : Rds P e T el ok) (hn : P.cellsOf e = n) (hn0 : 0 < n) (hb : 0 < P.bytesOf e) :
    Rds P t (List T) (fun l => .sl n (l.map el) false) (fun l => l.length * P.bytesOf e ≤ reachBytes ∧ ∀ v ∈ l, ok v) := Rds.mk <| fun enc W fuel cs x hx hw => by
  subst hn
  rcases Go.Deep.open_slice ht hx with ⟨rfl, rfl⟩ | ⟨a, len, cap, m, k, D, Pl, rfl, _, hlc, hcm, hmm, rfl, hi⟩
  · refine ⟨[], ⟨by simp, by simp⟩, _, _, rfl, ⟨none, 0, rfl, by simp, by simp, by simp⟩, rfl⟩
  · simp only [if_true] at hmm
    subst hmm
    simp only [DataW.weights, ht, if_true] at hw hi
    have hlen : len * P.bytesOf e ≤ reachBytes := by
      have := hw _ (List.mem_cons_self ..)
      simp only [List.length_map, List.length_range] at this
      exact Nat.le_trans (Nat.mul_le_mul_right _ (Nat.le_add_right ..)) this
    have hall : ∀ i, i < len → ∃ v : T, ok v ∧ ∃ cs', LRel (zch W) (el v).cells cs' ∧ W.cells? 0 (a.add (i * P.cellsOf e)) (P.cellsOf e) = some cs' := fun i hil => by
      obtain ⟨cs', h1, h2⟩ := hi i (by omega)
      obtain ⟨v, v1, v2⟩ := h.rd enc W k cs' _ h2 fun n hn => hw n (List.mem_cons_of_mem _ (List.mem_append_left _ (zeL (d := D i) (List.mem_map.2 ⟨i, by simpa using hil, rfl⟩) n hn)))
      exact ⟨v, v1, cs', v2, h1⟩
    have hspot : 0 < len → a.spot = none ∧ a.block < W.heap.size := fun hpos => by
      obtain ⟨v, v1, cs', v2, v3⟩ := hall 0 hpos
      obtain ⟨_, c2, c3⟩ := World.cells?_some v3
      have := c3 0 hn0
      rw [List.getElem?_eq_getElem (by omega)] at this
      simp only [World.cell?, Addr.add, Nat.zero_mul, if_true] at this
      split at this
      · rename_i c _ _ hh
        refine ⟨?_, (Array.getElem?_eq_some_iff.1 hh).1⟩
        cases hs : a.spot with
        | none => rfl
        | some _ => simp [hs] at this
      · simp at this
    have hlist : ∀ j, j ≤ len → ∃ l : List T, l.length = j ∧ (∀ v ∈ l, ok v) ∧ ERel (zch W) (P.cellsOf e) (l.map el) a.block (a.off + (len - j) * P.cellsOf e) := by
      intro j
      induction j with
      | zero => intro _; exact ⟨[], rfl, by simp, trivial⟩
      | succ j ih =>
        intro hj
        obtain ⟨l, l1, l2, l4⟩ := ih (by omega)
        obtain ⟨v, v1, cs', v2, v3⟩ := hall (len - (j + 1)) (by omega)
        obtain ⟨_, c2, c3⟩ := World.cells?_some v3
        have c4 := v2.length
        have hs := (hspot (by omega)).1
        refine ⟨v :: l, by simp [l1], by simpa using ⟨v1, l2⟩, ?_⟩
        rw [List.map_cons, zaO]
        refine ⟨by omega, zlh v2 fun i hil => ?_, ?_⟩
        · rw [← c3 i (by omega), zkg hs, zkg rfl]
          rfl
        · have e1 : a.off + (len - (j + 1)) * P.cellsOf e + P.cellsOf e = a.off + (len - j) * P.cellsOf e := by
            have : len - j = (len - (j + 1)) + 1 := by omega
            rw [this, Nat.add_mul]; omega
          rw [e1]
          exact l4
    obtain ⟨l, l1, l2, l4⟩ := hlist len (Nat.le_refl _)
    refine ⟨l, ⟨by rw [l1]; exact hlen, l2⟩, _, _, rfl, ⟨some a, m, by simp [l1], by simpa [l1] using hlc, by simp, fun hne => ?_⟩, rfl⟩
    have hpos : 0 < len := by
      rcases Nat.eq_zero_or_pos len with h0 | h0
      · exact absurd (by simp [List.length_eq_zero_iff.1 (l1.trans h0)]) hne
      · exact h0
    obtain ⟨s1, s2⟩ := hspot hpos
    obtain ⟨b, o, sp⟩ := a
    simp only at s1 s2
    subst s1
    exact ⟨b, o, rfl, ⟨s2, fun x => x⟩, by simpa using l4⟩
theorem znz {P : Program} {w : World} {r : Reach} {b0 : Nat} {t : TypeId} {fs : Array Field} {S : Ctx} {cs : List AV} {v : Value} (ht : P.underlying t = some (.struct fs)) (hv : Value.okWide P w r b0 t v) (h : LRel S (AV.agg cs).cells v.cells.toList) : VRel S (.agg cs) v := by
  obtain ⟨l, rfl, _⟩ := okWide_struct ht hv
  exact ⟨l, rfl, by simpa [AV.cells, Value.cells] using h⟩
def zit : TypeDesc → Bool
  | .bool | .int _ | .string | .slice _ | .pointer _ => true
  | _ => false
theorem znA {P : Program} {w : World} {r : Reach} {b0 : Nat} {t : TypeId} {k : TypeDesc} {S : Ctx} {a : AV} {v : Value} (ht : P.underlying t = some k) (hk : zit k = true) (hv : Value.okWide P w r b0 t v) (ha : a.cells = [a]) (h : LRel S a.cells v.cells.toList) : VRel S a v := by
  have : v.cells.toList = [v] := by
    simp only [Value.okWide, ht] at hv
    cases k <;> simp [zit] at hk <;> simp only [Cell.okWide, ht] at hv <;> cases v <;> simp_all [Cell.ok, Value.cells]
  rw [this, ha] at h
  obtain ⟨v', vs, h1, h2, _⟩ := h
  simp only [List.cons.injEq] at h1
  rw [h1.1]
  exact h2
def zcn (P : Program) (t : TypeId) {T : Type} (el : T → AV) : Prop := ∀ (W : World) (base : Nat) (S : Ctx) (v : Value) (a : T), Value.okWide P W .any base t v → LRel S (el a).cells v.cells.toList → VRel S (el a) v
theorem zd7 {P : Program} {t : TypeId} {fs : Array Field} {T : Type} {el : T → AV} {g : T → List AV} (ht : P.underlying t = some (.struct fs)) (he : ∀ a, el a = .agg (g a)) : zcn P t el := fun W base S v a hv h => by
  rw [he] at h ⊢
  exact znz ht hv h
theorem zel {P : Program} {t : TypeId} {k : TypeDesc} {T : Type} {el : T → AV} (ht : P.underlying t = some k) (hk : zit k = true) (he : ∀ a, (el a).cells = [el a]) : zcn P t el := fun W base S v a hv h => znA ht hk hv (he a) h
structure RdA (P : Program) (ts : List TypeId) (T : Type) (els : T → List AV) (ok : T → Prop) : Prop where
  rd : ∀ {H : Type} (enc : TypeId × Value → H) (W : World) (base : Nat) (vs : List Value) (ds : List (DataW H)) (ps : List MemPlace), DataW.TrodAll enc P W 0 (fun _ => true) true ts vs ds ps →
    (∀ (j : Nat) t v, ts[j]? = some t → vs[j]? = some v → Value.okWide P W .any base t v) → (∀ n ∈ DataW.weightsEach P ts ds, n ≤ reachBytes) → ∃ v : T, ok v ∧ LRel (zch W) (els v) vs
theorem zli {P : Program} : RdA P [] Unit (fun _ => []) (fun _ => True) := RdA.mk <| fun enc W base vs ds ps h hv hw => by
  obtain ⟨rfl, rfl, rfl⟩ := trodAll_nil h
  exact ⟨(), trivial, rfl⟩
theorem zd8 {P : Program} {t : TypeId} {ts : List TypeId} {A B : Type} {el : A → AV} {ok : A → Prop} {els : B → List AV} {ok' : B → Prop} (h : Rds P t A el ok) (ha : zcn P t el) (k : RdA P ts B els ok') :
    RdA P (t :: ts) (A × B) (fun p => el p.1 :: els p.2) (fun p => ok p.1 ∧ ok' p.2) := RdA.mk <| fun enc W base vs ds ps hx hv hw => by
  obtain ⟨v, vs1, d, ds1, a, b, rfl, rfl, rfl, h1, h2⟩ := trodAll_cons hx
  simp only [DataW.weightsEach, List.mem_append] at hw
  obtain ⟨fuel, h1⟩ := h1
  obtain ⟨x, x1, x2⟩ := h.rd enc W fuel _ _ h1 fun n hn => hw n (.inl hn)
  obtain ⟨y, y1, y2⟩ := k.rd enc W base vs1 ds1 _ h2 (fun j t v hj hvj => hv (j + 1) t v (by simpa using hj) (by simpa using hvj)) fun n hn => hw n (.inr hn)
  exact ⟨(x, y), ⟨x1, y1⟩, v, vs1, rfl, ha W base _ v x (hv 0 t v rfl rfl) x2, y2⟩
theorem zpK {C : Checked} {os : Os} {f : FuncId} {fn : Func} {s : ChangeSpec} {conds : List PathCond} {H : Type} {enc : TypeId × Value → H} {tb : TypeId} {b : Bool} {T : Type} {els : T → List AV} {ok : T → Prop} {ps : List TypeId}
    (own : ownKnob C.prog.godebug = none) (started : os.Started) (noInit : C.prog.inits.idxOf? f = none) (hfn : C.prog.funcs[f]? = some fn)
    (witness : ∃ (w : World) (tape : Tape) (i : Input), w.os = os ∧ (w.forCall tape i).Shaped C.prog ∧ i.vars = [] ∧ Input.okWide C.prog (w.forCall tape i) .any w.heap.size f i ∧
      s.pre6 enc C.prog fn conds false (w.forCall tape i).memory i.args ∧ ({} : Assume).holds C.prog (lone (Frame.enter C.prog f i.args .normal) [] (w.forCall tape i)))
    (hlo : laidOutB C.prog = true) (hv : s.vars = []) (hps : fn.params.toList = ps) (hr : ∀ t ∈ ps, C.prog.readableRec t = true ∧ t < C.prog.types.size)
    (hrt : fn.resultTypes = #[tb]) (htb : C.prog.underlying tb = some .bool)
    (hspec : ∀ ds : List (DataW H), ds.length = ps.length → s.fn H ds = { results := [.lit (.bool b)], args := ds })
    (rd : RdA C.prog ps T els ok) (calls : ∀ v, ok v → PCalls C.prog f (els v) (.raw (.bool b))) (gl : ∀ W, GlobOK (zch W) := by intro W b hb; exact absurd hb (Nat.not_lt_zero b)) :
    ReturnsInHanded {} C os f .any (s.pre6 enc C.prog fn conds false) (s.post enc C.prog fn false true false false) := by
  subst hps
  refine returnsInHanded_of_change_sized own started noInit hfn witness ?_
  intro W base args ds gs before hval hW hcnd hwt _
  obtain ⟨p, q, hA, hV, e, hfz, hnd⟩ := id hW
  rw [hv] at hV
  obtain ⟨rfl, rfl⟩ := trodVars_none hV
  have hwt' : ∀ n ∈ DataW.weightsEach C.prog fn.params.toList ds, n ≤ reachBytes := by
    have e2 : s.plain.varTypes C.prog = [] := by simp [DataSpec.varTypes, ChangeSpec.plain, hv]
    rw [e2, List.append_nil, List.append_nil] at hwt
    simpa [List.all_eq_true] using hwt
  obtain ⟨v, v1, v2⟩ := rd.rd enc W base _ _ _ hA (fun j t v hj hvj => hval j t v (by simpa using hj) (by simpa using hvj)) hwt'
  refine (zkf (calls v v1) (gl W) v2).mono fun e W' ⟨he, hb⟩ => ⟨_, he, ?_⟩
  exact ziW hlo hv hr hrt htb (fun ds hd => hspec ds (by simpa using hd)) hW hb
end Go.Proofs.YtckabcbfbpejkaaGreatDoor.Av
