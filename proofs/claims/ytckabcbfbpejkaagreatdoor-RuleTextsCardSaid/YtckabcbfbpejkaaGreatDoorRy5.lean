/- Rules: the laws RuleTexts, RuleMatches. Part 5 of 22: AvMake, AvApp. -/
import Derived.Test.YtckabcbfbpejkaaGreatDoorRy4
import Derived.Laws.AppendOwn
namespace Go.Proofs.YtckabcbfbpejkaaGreatDoor.Av
open Go
set_option linter.unusedSimpArgs false
set_option linter.unusedVariables false
section
variable {P : Program} {m : zL} {S : Ctx}
def Makes (P : Program) (s : Sem Value) (S : Ctx) (m : zL) (i : Id) (es : List AV) (r : AV) : Prop :=
  ∃ v S', s.run P S.w = .ok v S'.w ∧ Ev S S' ∧ SRelM (fun j => if j = i then some (.buf es) else m j) S' ∧ VRel S' r v ∧ ∀ j, S'.K j ↔ S.K j ∨ j = i
theorem Makes.push (hm : SRelM m S) {s : Sem Value} {i : Id} {es : List AV} {r : AV} {w' : World} {c : Array Value} {t : TypeId} {v : Value} (hrun : s.run P S.w = .ok v w') (hw : zcD S.w w' (.cells c t)) (hi : ¬ S.K i)
    {l : List Value} (hl : LRel S (zs es) l) (hs : ∀ e ∈ es, e.cells.length = i.sz) (hc : ∀ (j : Nat) (v : Value), l[j]? = some v → c[j]? = some v) (hlen : es.length * i.sz ≤ c.size)
    (hr : VRel (S.push w' i) r v) : Makes P s S m i es r :=
  ⟨v, S.push w' i, hrun, Ev.push hw hi, hm.push hw hi hl hs hc hlen, hr, fun j => Iff.rfl⟩
theorem zkD (hm : SRelM m S) {t : TypeId} {r : Res} (h : zdJ P t = some r) : ∃ sz es f, r = .mk sz es f ∧ ∀ i : Id, i.sz = sz → ¬ S.K i → Makes P (Instr.alloc t true (.tuple #[])) S m i es (f i) := by
  unfold zdJ at h
  cases hz : z7 P t with
  | none => simp [hz] at h
  | some z =>
    simp only [hz, Option.some.injEq] at h
    subst h
    refine ⟨_, _, _, rfl, fun i hsz hi => ?_⟩
    have hcr := zba S z
    refine Makes.push hm (w' := S.w.alloc (.cells z.cells t)) (c := z.cells) (t := t) (v := .pointer (some ⟨S.w.heap.size, 0, none⟩)) (by simp [Instr.alloc, zbn hz, newVar, newRow]) ⟨rfl, rfl, rfl, rfl⟩ hi (l := z.cells.toList)
      (by simpa [zs] using hcr) (by simp [hsz]) (fun j v hj => by rwa [Array.getElem?_toList] at hj) (by simp [hsz, hcr.length]) ?_
    simp [VRel, Ctx.push]
theorem zmk (hm : SRelM m S) {t : TypeId} {x : AV} {v : Value} {r : Res} (h : zgc x = some r) (hx : VRel S x v) : ∃ sz es f, r = .mk sz es f ∧ ∀ i : Id, i.sz = sz → ¬ S.K i → Makes P (Instr.box t v) S m i es (f i) := by
  unfold zgc at h
  split at h
  · rename_i hc
    simp only [Option.some.injEq] at h
    subst h
    refine ⟨_, _, _, rfl, fun i hsz hi => ?_⟩
    have hcr := zdh hc hx
    refine Makes.push hm (w' := S.w.alloc (.cells v.cells t)) (c := v.cells) (t := t) (v := .pointer (some ⟨S.w.heap.size, 0, none⟩)) (by simp [Instr.box, newVar, newRow]) ⟨rfl, rfl, rfl, rfl⟩ hi (l := v.cells.toList)
      (by simpa [zs] using hcr) (by simp [hsz]) (fun j v hj => by rwa [Array.getElem?_toList] at hj) (by simp [hsz, hcr.length]) ?_
    simp [VRel, Ctx.push]
  · simp at h
theorem zkE (hm : SRelM m S) {t : TypeId} {x y : AV} {vx vy : Value} {r : Res} (h : zeA P m t x y = some r) (hx : VRel S x vx) (hy : VRel S y vy) :
    ∃ i es es0, r = .wr i es ∧ m i = some (.buf es0) ∧ ∃ S', (Instr.storeAt t vx vy).run P S.w = .ok () S'.w ∧ Ev S S' ∧ SRelM (fun j => if j = i then some (.buf es) else m j) S' ∧ S'.K = S.K := by
  unfold zeA at h
  cases x <;> simp only [reduceCtorEq] at h
  rename_i i k off
  cases hi : m i with
  | none => simp [hi] at h
  | some o =>
    cases o with
    | map _ => simp [hi] at h
    | loop _ _ _ _ _ _ _ _ => simp [hi] at h
    | bufx _ => simp [hi] at h
    | buf es =>
      simp only [hi] at h
      cases he : es[k]? with
      | none => simp [he] at h
      | some e =>
        simp only [he] at h
        split at h
        · rename_i hc
          obtain ⟨c1, c2, c3⟩ := hc
          simp only [Option.some.injEq] at h
          subst h
          refine ⟨i, _, es, rfl, hi, ?_⟩
          simp only [VRel] at hx
          obtain ⟨rfl, hK⟩ := hx
          obtain ⟨_, hlt, hO, c, tt, hb, hle, hE⟩ := hm.live i _ hi
          obtain ⟨hv, _⟩ := ERel.values hb hE
          have hsz := hE.sizes
          have hel := hsz e (List.mem_of_getElem? he)
          have hyr := zdh c3 hy
          have hyl : vy.cells.toList.length = y.cells.length := hyr.length.symm
          have hklt : k < es.length := (List.getElem?_eq_some_iff.1 he).1
          have hkb : k * i.sz + off + y.cells.length ≤ es.length * i.sz := by
            have : (k + 1) * i.sz ≤ es.length * i.sz := Nat.mul_le_mul_right _ hklt
            rw [Nat.add_mul] at this
            omega
          have hset : (setPart e off y.cells).cells = e.cells.take off ++ y.cells ++ e.cells.drop (off + y.cells.length) := by
            have scalar : ∀ e : AV, (∀ cs, e ≠ .agg cs) → e.cells.length = i.sz → off + y.cells.length ≤ e.cells.length → (setPart e off y.cells).cells = e.cells.take off ++ y.cells ++ e.cells.drop (off + y.cells.length) := by
              intro e hne hel hle
              have hcell : e.cells = [e] := by cases e <;> first | rfl | exact absurd rfl (hne _)
              have hsp : setPart e off y.cells = zb9 e y.cells := by
                cases e <;> first | exact absurd rfl (hne _) | rfl
              rw [hsp]
              rw [hcell] at hle ⊢
              simp only [List.length_singleton] at hle
              generalize hys : y.cells = ys at hle c3 ⊢
              rcases ys with _ | ⟨a, _ | ⟨b, ys⟩⟩
              · simp only [zb9, hcell, List.append_nil, List.length_nil, Nat.add_zero, List.take_append_drop]
              · simp only [List.length_singleton] at hle
                have : off = 0 := by omega
                subst this
                have ha : a.cells = [a] := by
                  simp only [zN, List.all_cons, List.all_nil, Bool.and_true] at c3
                  cases a <;> first | rfl | simp [cellOK] at c3
                simp [zb9, ha]
              · simp only [List.length_cons] at hle; omega
            cases e with
            | agg cs => rfl
            | _ => exact scalar _ (by intro cs; simp) hel c2
          have hflat := zeQ (sz := i.sz) (off := off) (vs := y.cells) (e' := setPart e off y.cells) he hsz (by omega) hset
          have hrun := run_storeCells_at P (S.mu i) (k * i.sz + off) tt vy.cells.toList 0 c S.w hb (by simp only [Nat.add_zero]; rw [hyl]; omega) (zcF c3 hyr)
          simp only [Nat.add_zero] at hrun
          rw [hyl] at hrun
          have hn : (vy.cells.size : Nat) = y.cells.length := by rw [← hyl]; simp
          have hrun' : (Instr.storeAt t (.pointer (some ⟨S.mu i, k * i.sz + off, none⟩)) vy).run P S.w = .ok () (S.w.setRow (S.mu i) (c.toList.take (k * i.sz + off) ++ vy.cells.toList ++ c.toList.drop (k * i.sz + off + y.cells.length)).toArray) := by
            simp [Instr.storeAt, Instr.sureAddr, storeVar, zU c1, hn, hrun]
          have hlen2 : (setPart e off y.cells).cells.length = i.sz := by rw [hset]; simp; omega
          have := hm.write hi hb (c' := (c.toList.take (k * i.sz + off) ++ vy.cells.toList ++ c.toList.drop (k * i.sz + off + y.cells.length)).toArray) (by simp; rw [hn]; omega)
            (es' := es.set k (setPart e off y.cells)) (l := (c.toList.take (es.length * i.sz)).take (k * i.sz + off) ++ vy.cells.toList ++ (c.toList.take (es.length * i.sz)).drop (k * i.sz + off + y.cells.length))
            (by rw [hflat]; exact ((hv.take _).append hyr).append (hv.drop _))
            (fun e' he' => by
              rcases List.mem_or_eq_of_mem_set he' with h' | h'
              · exact hsz e' h'
              · subst h'; exact hlen2)
            (fun j v hj => by
              rw [List.getElem?_toArray]
              have hlt2 := (List.getElem?_eq_some_iff.1 hj).1
              simp only [List.length_append, List.length_take, List.length_drop, Array.length_toList] at hlt2
              rw [← hj]
              simp only [List.getElem?_append, List.length_append, List.length_take, List.getElem?_take, List.getElem?_drop, Array.length_toList]
              have e1 : min (k * i.sz + off) (min (es.length * i.sz) c.size) = k * i.sz + off := by omega
              have e2 : min (k * i.sz + off) c.size = k * i.sz + off := by omega
              rw [e1, e2]
              by_cases q1 : j < k * i.sz + off + vy.cells.size
              · by_cases q2 : j < k * i.sz + off
                · have q3 : j < es.length * i.sz := by omega
                  simp only [q1, q2, q3, if_true]
                · simp only [q1, q2, if_true, if_false]
              · have q4 : k * i.sz + off + y.cells.length + (j - (k * i.sz + off + vy.cells.size)) < es.length * i.sz := by omega
                simp only [q1, q4, if_true, if_false])
            (by simp; rw [hn]; omega)
          exact ⟨_, hrun', this.1, this.2, rfl⟩
        · simp at h
theorem zgr {n : Nat} : ∀ {parts : List (Nat × AV)} {vparts : List (Nat × Value)} {es es' : List AV} {cells : Array Value}, zcX n parts es = some es' → (∀ e ∈ es, e.cells.length = n) → LRel S (zs es) cells.toList →
      vparts.map (·.1) = parts.map (·.1) → (∀ (j : Nat) (a : AV) (v : Value), (parts[j]?).map (·.2) = some a → (vparts[j]?).map (·.2) = some v → VRel S a v) →
      ∃ arr, Instr.fill (fun i => some (i * n, n)) cells vparts = some arr ∧ LRel S (zs es') arr.toList ∧ (∀ e ∈ es', e.cells.length = n) ∧ es'.length = es.length := by
  intro parts
  induction parts with
  | nil =>
    intro vparts es es' cells h hs hr hl _
    simp only [List.map_nil, List.map_eq_nil_iff] at hl
    subst hl
    simp only [zcX, Option.some.injEq] at h
    subst h
    exact ⟨cells, rfl, hr, hs, rfl⟩
  | cons p parts ih =>
    intro vparts es es' cells h hs hr hl hv
    cases vparts with
    | nil => simp at hl
    | cons q vparts =>
      obtain ⟨i, a⟩ := p
      obtain ⟨i', v⟩ := q
      simp only [List.map_cons, List.cons.injEq] at hl
      obtain ⟨rfl, hl⟩ := hl
      simp only [zcX] at h
      split at h
      · rename_i hc
        obtain ⟨c1, c2, c3⟩ := hc
        have hva := hv 0 a v rfl rfl
        have hcr := zdh c3 hva
        have hsz : v.cells.size = n := by rw [← c1, hcr.length]; simp
        have hlen : (zs es).length = es.length * n := by
          clear h ih hl hv hr
          induction es with
          | nil => simp [zs]
          | cons e es ih =>
            have h1 := hs e (by simp)
            cases es with
            | nil => simp [zs, h1]
            | cons e' es' =>
              have h2 : (zs (e' :: es')).length = (e' :: es').length * n := by
                have : ∀ (l : List AV), (∀ e ∈ l, e.cells.length = n) → (zs l).length = l.length * n := by
                  intro l
                  induction l with
                  | nil => intro _; simp [zs]
                  | cons e l ih =>
                    intro h
                    have e1 := h e (by simp)
                    have e2 := ih (fun x hx => h x (by simp [hx]))
                    unfold zs at *
                    rw [List.flatMap_cons, List.length_append, e1, e2, List.length_cons, Nat.add_mul]; omega
                exact this _ (fun x hx => hs x (by simp [hx]))
              unfold zs at *
              rw [List.flatMap_cons, List.length_append, h1, h2, List.length_cons (a := e), Nat.add_mul]; omega
        have hcl : cells.size = es.length * n := by rw [← hlen, hr.length]; simp
        have hle : i' * n + n ≤ es.length * n := by
          have : (i' + 1) * n ≤ es.length * n := Nat.mul_le_mul_right _ c2
          rwa [Nat.add_mul, Nat.one_mul] at this
        let arr : Array Value := (cells.toList.take (i' * n) ++ v.cells.toList ++ cells.toList.drop (i' * n + v.cells.size)).toArray
        rw [zgT (arr := arr) (off := i' * n) (by rw [hsz]) (by omega) (by simp [arr])]
        have hset := zeQ (sz := n) (off := 0) (vs := a.cells) (e' := a) (es := es) (k := i') (List.getElem?_eq_getElem c2) hs (by omega) (by
          have := hs _ (List.getElem_mem c2)
          simp [c1, this])
        obtain ⟨arr', h1, h2, h3, h4⟩ := ih (cells := arr) h (fun e he => by
          rcases List.mem_or_eq_of_mem_set he with h' | h'
          · exact hs e h'
          · subst h'; exact c1) (by
          simp only [arr]
          rw [hset, hsz, c1]
          exact ((hr.take _).append hcr).append (hr.drop _)) hl (fun j a v h1 h2 => hv (j + 1) a v (by simpa using h1) (by simpa using h2))
        exact ⟨arr', h1, h2, h3, by rw [h4, List.length_set]⟩
      · simp at h
theorem ziG {z : Value} {n : Nat} (hz : (zC z).cells.length = n) (len : Nat) : LRel S (zs (List.replicate len (zC z))) ((Array.range (len * n)).map (z.cells[· % z.cells.size]!)).toList := by
  have hcr := zba S z
  have hsz : z.cells.size = n := by rw [← hz, hcr.length]; simp
  have key : ∀ len, ((List.range (len * n)).map (z.cells[· % z.cells.size]!)) = (List.replicate len z.cells.toList).flatten := by
    intro len
    induction len with
    | zero => simp
    | succ len ih =>
      rw [List.replicate_succ', List.flatten_append, ← ih, Nat.add_mul, Nat.one_mul, List.range_add, List.map_append, List.map_map]
      congr 1
      simp only [List.flatten_cons, List.flatten_nil, List.append_nil]
      apply List.ext_getElem?
      intro j
      rw [List.getElem?_map]
      by_cases hj : j < n
      · rw [List.getElem?_range hj]
        simp only [Option.map_some, Function.comp]
        rw [hsz, Nat.add_comm, Nat.add_mul_mod_self_right, Nat.mod_eq_of_lt hj]
        have : j < z.cells.size := by omega
        simp [this]
      · rw [List.getElem?_eq_none (by simpa using Nat.le_of_not_lt hj), List.getElem?_eq_none (by simp; omega)]
        rfl
  rw [Array.toList_map, Array.toList_range, key]
  induction len with
  | zero => simp [zs, LRel]
  | succ len ih =>
    rw [List.replicate_succ, List.replicate_succ]
    unfold zs at *
    rw [List.flatMap_cons, List.flatten_cons]
    exact hcr.append ih
theorem zgU (hm : SRelM m S) {t : TypeId} {len : Nat} {parts : List (Nat × AV)} {vparts : Array (Nat × Value)} {r : Res} (h : zbz P t len parts = some r)
    (hl : vparts.toList.map (·.1) = parts.map (·.1)) (hv : ∀ (j : Nat) (a : AV) (v : Value), (parts[j]?).map (·.2) = some a → (vparts.toList[j]?).map (·.2) = some v → VRel S a v) :
    ∃ sz es f, r = .mk sz es f ∧ ∀ i : Id, i.sz = sz → ¬ S.K i → Makes P (Instr.buildSlice t len vparts) S m i es (f i) := by
  unfold zbz zaa at h
  cases hu : P.underlying t with
  | none => simp [hu] at h
  | some d =>
    cases d <;> simp only [hu, reduceCtorEq] at h
    rename_i e
    cases hs : z6 P e with
    | none => simp [hs] at h
    | some n =>
      cases hz : z7 P e with
      | none => simp [hs, hz] at h
      | some z =>
        simp only [hs, hz] at h
        split at h
        · rename_i hc
          obtain ⟨c1, c2⟩ := hc
          simp only [Option.map_eq_some_iff] at h
          obtain ⟨es, hes, rfl⟩ := h
          refine ⟨_, _, _, rfl, fun i hsz hi => ?_⟩
          obtain ⟨arr, h1, h2, h3, h4⟩ := zgr (S := S) hes (by simp [c2]) (ziG c2 len) hl hv
          rw [List.length_replicate] at h4
          have hzs : z.cells.size = n := by rw [← c2, (zba S z).length]; simp
          have hlen : arr.size = len * n := by
            have : (zs es).length = es.length * n := by
              have : ∀ (l : List AV), (∀ e ∈ l, e.cells.length = n) → (zs l).length = l.length * n := by
                intro l
                induction l with
                | nil => intro _; simp [zs]
                | cons e l ih =>
                  intro h
                  have e1 := h e (by simp)
                  have e2 := ih (fun x hx => h x (by simp [hx]))
                  unfold zs at *
                  rw [List.flatMap_cons, List.length_append, e1, e2, List.length_cons, Nat.add_mul]; omega
              exact this _ h3
            rw [h4] at this
            rw [← this, h2.length]; simp
          have hle : ¬ (len * n > 2 ^ 24) := by omega
          refine Makes.push hm (w' := S.w.alloc (.cells arr e)) (c := arr) (t := e) (v := .slice (some ⟨S.w.heap.size, 0, none⟩) len len) ?_ ⟨rfl, rfl, rfl, rfl⟩ hi (l := arr.toList) h2 (by intro x hx; rw [hsz]; exact h3 x hx)
            (fun j v hj => by rwa [Array.getElem?_toList] at hj) (by rw [hsz, h4, hlen]; exact Nat.le_refl _) ?_
          · simp only [Instr.buildSlice, Sem.run_bind, run_underlying hu, Result.andThen_ok, zU hs, hle, if_false]
            by_cases h0 : len * n = 0
            · have hr0 : Array.range 0 = #[] := rfl
              have h1' : Instr.fill (fun i => some (i * n, n)) #[] vparts.toList = some arr := by
                rw [h0, hr0] at h1; simpa using h1
              simp only [h0, if_true, Sem.run_bind, Sem.run_pure, Result.andThen_ok, hr0, Array.map_empty, h1']
              simp [newRow]
            · simp only [h0, if_false, Sem.run_bind, Sem.run_pure, Result.andThen_ok, zbn hz, h1]
              simp [newRow]
          · simp only [VRel]
            refine ⟨len, by simp [Ctx.push], Nat.le_refl _, ?_, by simp [Ctx.push], .inr rfl⟩
            have : cellsOf (S.push (S.w.alloc (.cells arr e)) i).w ((S.push (S.w.alloc (.cells arr e)) i).mu i) = arr.size := by
              have hmu : (S.push (S.w.alloc (.cells arr e)) i).mu i = S.w.heap.size := by simp [Ctx.push]
              rw [hmu]
              exact zax (za1 (w := S.w) rfl)
            rw [this, hlen, hsz]; simp
        · simp at h
end
end Go.Proofs.YtckabcbfbpejkaaGreatDoor.Av
namespace Go.Proofs.YtckabcbfbpejkaaGreatDoor.Av
open Go
set_option linter.unusedSimpArgs false
set_option linter.unusedVariables false
section
variable {P : Program} {m : zL} {S : Ctx}
theorem zi9 {n : Nat} : ∀ (l : List AV), (∀ e ∈ l, e.cells.length = n) → (zs l).length = l.length * n
  | [], _ => by simp [zs]
  | e :: l, h => by
    have e1 := h e (by simp)
    have e2 := zi9 l (fun x hx => h x (by simp [hx]))
    unfold zs at *
    rw [List.flatMap_cons, List.length_append, e1, e2, List.length_cons, Nat.add_mul]; omega
theorem zbm (a b : List AV) : zs (a ++ b) = zs a ++ zs b := by simp [zs]
theorem ERel.none_nil {n : Nat} {es : List AV} (h : es = []) (b o : Nat) : ERel S n es b o := by subst h; simp [ERel]
theorem ze2 (hm : SRelM m S) {x : AV} {v : Value} {ys : List AV} {n : Nat} (h : zbT m x = some ys) (hn : ys = [] ∨ zer x = n) (hx : VRel S x v) :
    ∃ base cap l, v = .slice base ys.length cap ∧ LRel S (zs ys) l ∧ l.length = ys.length * n ∧ (∀ e ∈ ys, e.cells.length = n) ∧
      ∀ w : World, (∀ a, w.cell? a = S.w.cell? a) → (Builtin.firstCells n ys.length v).run P w = .ok l.toArray w := by
  have fin : ∀ (base : Option Addr) (cap : Nat) (b o : Nat), (ys ≠ [] → base = some ⟨b, o, none⟩) → ERel S n ys b o → v = .slice base ys.length cap →
      ∃ base cap l, v = .slice base ys.length cap ∧ LRel S (zs ys) l ∧ l.length = ys.length * n ∧ (∀ e ∈ ys, e.cells.length = n) ∧
      ∀ w : World, (∀ a, w.cell? a = S.w.cell? a) → (Builtin.firstCells n ys.length v).run P w = .ok l.toArray w := by
    intro base cap b o hb hE hv
    obtain ⟨h1, h2⟩ := hE.toRow
    obtain ⟨l, hl, hc⟩ := h2.cells
    have hlen : l.length = ys.length * n := by rw [← hl.length, h1]
    refine ⟨base, cap, l, hv, hl, hlen, hE.sizes, fun w hw => ?_⟩
    by_cases h0 : ys = []
    · subst h0
      have : l = [] := List.eq_nil_of_length_eq_zero (by simpa using hlen)
      subst this
      subst hv
      cases base <;> simp [Builtin.firstCells, loadCells, loadCellsFrom]
    · rw [hv, hb h0]
      simp only [Builtin.firstCells]
      rw [← hlen]
      exact run_loadCells_list w _ l (fun j u hj => by rw [zaQ, hw]; exact hc j u hj)
  cases x <;> simp only [zbT, reduceCtorEq] at h
  · split at h
    · rename_i e; cases e
    · rename_i b c hv
      injection hv with hv
      simp only [VRel] at hx
      simp only [Option.some.injEq] at h
      subst h
      exact fin b c 0 0 (fun h => absurd rfl h) (ERel.none_nil rfl _ _) (hx.trans hv)
    · rename_i e; cases e
    · cases h
  · rename_i sz es full
    simp only [Option.some.injEq] at h
    subst h
    simp only [VRel] at hx
    obtain ⟨base, cap, rfl, _, _, h3⟩ := hx
    by_cases h0 : es = []
    · exact fin base cap 0 0 (fun h => absurd h0 h) (ERel.none_nil h0 _ _) rfl
    · obtain ⟨b, o, rfl, _, hE⟩ := h3 h0
      have := hn.resolve_left h0
      simp only [zer] at this
      subst this
      exact fin _ cap b o (fun _ => rfl) hE rfl
  · rename_i i off len
    cases hi : m i with
    | none => simp [hi] at h
    | some o =>
      cases o with
      | map _ => simp [hi] at h
      | loop _ _ _ _ _ _ _ _ => simp [hi] at h
      | bufx _ => simp [hi] at h
      | buf es =>
        simp only [hi] at h
        split at h
        · rename_i hle
          simp only [Option.some.injEq] at h
          subst h
          simp only [VRel] at hx
          obtain ⟨cap, rfl, _⟩ := hx
          obtain ⟨_, _, _, c, t, _, _, hE⟩ := hm.live i _ hi
          have hE' := (hE.drop off).take len
          have hlen : ((es.drop off).take len).length = len := by simp; omega
          by_cases h0 : (es.drop off).take len = []
          · refine fin _ cap 0 0 (fun h => absurd h0 h) (ERel.none_nil h0 _ _) (by rw [hlen])
          · have := hn.resolve_left h0
            simp only [zer] at this
            subst this
            exact fin (some ⟨S.mu i, off * i.sz, none⟩) cap (S.mu i) (0 + off * i.sz) (fun _ => by simp) hE' (by rw [hlen])
        · simp at h
theorem zfH {t ty e : TypeId} (hu : P.underlying t = some (.slice e)) {n : Nat} (hs : z6 P e = some n) {base : Option Addr} {len cap k : Nat} {x : Value} {l : List Value} {w' : World}
    (hx : ∃ b c, x = .slice b k c) (hread : (Builtin.firstCells n k x).run P S.w = .ok l.toArray S.w) (hroom : len + k ≤ cap)
    (hst : ∀ a, base = some a → (storeCells (a.add (len * n)) l).run P S.w = .ok () w') (hnone : base = none → w' = S.w) :
    (Builtin.append_ #[t, t] ty #[.slice base len cap, x]).run P S.w = .ok (.slice base (len + k) cap) w' := by
  obtain ⟨b, c, rfl⟩ := hx
  cases base with
  | none =>
    rw [hnone rfl]
    simp [Builtin.append_, run_underlying hu, zU hs, Builtin.lenOf, hroom, hread]
  | some a =>
    have := hst a rfl
    simp [Builtin.append_, run_underlying hu, zU hs, Builtin.lenOf, hroom, hread, this]
theorem zc5 {t : TypeId} {b : Nat} (h : zag P t = some b) (w : World) : ∃ i : TypeInfo, (typeInfo t).run P w = .ok i w ∧ i.bytes = b := by
  unfold zag at h
  cases hi : P.info? t with
  | none => simp [hi] at h
  | some i => simp [hi] at h; exact ⟨i, by simp [typeInfo, hi], h⟩
theorem zhq {t ty e : TypeId} (hu : P.underlying t = some (.slice e)) {n by_ : Nat} {z : Value} (hs : z6 P e = some n) (hb : zag P e = some by_) (hz : z7 P e = some z) {base : Option Addr} {len cap k : Nat} {x : Value} {l l0 : List Value}
    (hx : ∃ b c, x = .slice b k c) (hread : (Builtin.firstCells n k x).run P S.w.drew = .ok l.toArray S.w.drew) (hold : (Builtin.firstCells n len (.slice base len cap)).run P S.w.drew = .ok l0.toArray S.w.drew)
    (hroom : cap < len + k) (hsz : (len + k) * by_ ≤ 2 ^ 47) (hn : len + k ≤ 2 ^ 47) :
    ∃ newCap, len + k ≤ newCap ∧ (Builtin.append_ #[t, t] ty #[.slice base len cap, x]).run P S.w = .ok (.slice (some ⟨S.w.heap.size, 0, none⟩) (len + k) newCap)
      (S.w.drew.alloc (.cells (l0.toArray ++ l.toArray ++ Builtin.zeroCells z.cells (newCap - (len + k))) e)) := by
  obtain ⟨b, c, rfl⟩ := hx
  obtain ⟨i, hi, hib⟩ := zc5 (P := P) hb S.w
  obtain ⟨i', hi', hib'⟩ := zc5 (P := P) hb S.w.drew
  have h1 : ¬ (len + k ≤ cap) := by omega
  have h2 : ¬ (IntKind.i64.max < ((len + k : Nat) : Int)) := by
    have : (IntKind.i64.max : Int) = 9223372036854775807 := by decide
    rw [this]; omega
  have h3 : ¬ (2 ^ 48 < Builtin.nextslicecap (len + k) cap * by_) := by
    have := nextslicecap_le hroom
    have : Builtin.nextslicecap (len + k) cap * by_ ≤ 2 * (len + k) * by_ := Nat.mul_le_mul_right _ this
    rw [Nat.mul_assoc] at this
    omega
  refine ⟨grownCap S.w (len + k) cap e, ?_, ?_⟩
  · unfold grownCap; simp [Question.cut]
  · have h2' : ¬ ((9223372036854775807 : Int) < (len : Int) + (k : Int)) := by omega
    have h3' : ¬ (281474976710656 < Builtin.nextslicecap (len + k) cap * by_) := by simpa using h3
    simp [Builtin.append_, run_underlying hu, zU hs, Builtin.lenOf, h1, hi, hib, hi', hib', h2', h3', Question.forced, hread, hold, zbn hz, newRow, grownCap]
    congr 2
    apply Array.ext'
    simp
theorem zfI (S : Ctx) (o : Obj) : zcD S.w (S.w.drew.alloc o) o := ⟨rfl, rfl, rfl, rfl⟩
theorem zk9 {l0 l : List Value} {z : Value} {k : Nat} : ∀ (j : Nat) (v : Value), (l0 ++ l)[j]? = some v → (l0.toArray ++ l.toArray ++ Builtin.zeroCells z.cells k)[j]? = some v := by
  intro j v hj
  have hlt := (List.getElem?_eq_some_iff.1 hj).1
  rw [Array.getElem?_append_left (by simpa using hlt)]
  simpa using hj
theorem zhr {n : Nat} : ∀ {l : List AV}, (∀ e ∈ l, e.cells.length = n) → (zs l).length = l.length * n
  | [], _ => by simp [zs]
  | e :: l, h => by
    have e1 := h e (by simp)
    have e2 := zhr (l := l) fun x hx => h x (by simp [hx])
    simp only [zs, List.flatMap_cons, List.length_append, List.length_cons] at e2 ⊢
    rw [e1, Nat.add_mul]; omega
theorem zev {n : Nat} : ∀ {l : List AV} {k : Nat}, (∀ e ∈ l, e.cells.length = n) → zs (l.take k) = (zs l).take (k * n)
  | [], k, _ => by simp [zs]
  | e :: l, 0, _ => by simp [zs]
  | e :: l, k + 1, h => by
    have e1 := h e (by simp)
    have e2 := zev (l := l) (k := k) fun x hx => h x (by simp [hx])
    simp only [zs, List.take_succ_cons, List.flatMap_cons] at e2 ⊢
    rw [e2, show (k + 1) * n = e.cells.length + k * n by rw [e1, Nat.add_mul]; omega, List.take_length_add_append]
theorem zgw {n : Nat} : ∀ {l : List AV} {k : Nat}, (∀ e ∈ l, e.cells.length = n) → zs (l.drop k) = (zs l).drop (k * n)
  | [], k, _ => by simp [zs]
  | e :: l, 0, _ => by simp [zs]
  | e :: l, k + 1, h => by
    have e1 := h e (by simp)
    have e2 := zgw (l := l) (k := k) fun x hx => h x (by simp [hx])
    simp only [zs, List.drop_succ_cons, List.flatMap_cons] at e2 ⊢
    rw [e2, show (k + 1) * n = e.cells.length + k * n by rw [e1, Nat.add_mul]; omega, List.drop_length_add_append]
theorem zfJ (hm : SRelM m S) {i : Id} {es ys : List AV} (hi : m i = some (.buf es)) {off : Nat} (hle : off + ys.length ≤ es.length) (hs : ∀ e ∈ ys, e.cells.length = i.sz) (hok : zN (zs ys) = true) {vals : List Value} (hv : LRel S (zs ys) vals) :
    ∃ S' : Ctx, (storeCells ⟨S.mu i, off * i.sz, none⟩ vals).run P S.w = .ok () S'.w ∧ Ev S S' ∧ SRelM (fun j => if j = i then some (.buf (es.take off ++ ys ++ es.drop (off + ys.length))) else m j) S' ∧ S'.K = S.K := by
  obtain ⟨_, hlt, hO, c, tt, hb, hsz, hE⟩ := hm.live i _ hi
  obtain ⟨hrow, _⟩ := ERel.values hb hE
  have hes := hE.sizes
  have hlen : vals.length = ys.length * i.sz := by rw [← hv.length, zhr hs]
  have hbd : off * i.sz + vals.length ≤ es.length * i.sz := by
    rw [hlen, ← Nat.add_mul]; exact Nat.mul_le_mul_right _ hle
  have hrun := run_storeCells_at P (S.mu i) (off * i.sz) tt vals 0 c S.w hb (by simp only [Nat.add_zero]; omega) (zcF hok hv)
  simp only [Nat.add_zero] at hrun
  have := hm.write hi hb (c' := (c.toList.take (off * i.sz) ++ vals ++ c.toList.drop (off * i.sz + vals.length)).toArray) (by simp; omega)
    (es' := es.take off ++ ys ++ es.drop (off + ys.length)) (l := (c.toList.take (es.length * i.sz)).take (off * i.sz) ++ vals ++ (c.toList.take (es.length * i.sz)).drop (off * i.sz + vals.length))
    (by
      rw [zbm, zbm, zev hes, zgw hes, Nat.add_mul, ← hlen]
      exact ((hrow.take _).append hv).append (hrow.drop _))
    (fun e he => by
      simp only [List.mem_append] at he
      rcases he with (he | he) | he
      · exact hes e (List.mem_of_mem_take he)
      · exact hs e he
      · exact hes e (List.mem_of_mem_drop he))
    (fun j v hj => by
      rw [List.getElem?_toArray]
      have hlt2 := (List.getElem?_eq_some_iff.1 hj).1
      simp only [List.length_append, List.length_take, List.length_drop, Array.length_toList] at hlt2
      rw [← hj]
      simp only [List.getElem?_append, List.length_append, List.length_take, List.getElem?_take, List.getElem?_drop, Array.length_toList]
      have e1 : min (off * i.sz) (min (es.length * i.sz) c.size) = off * i.sz := by omega
      have e2 : min (off * i.sz) c.size = off * i.sz := by omega
      rw [e1, e2]
      by_cases q1 : j < off * i.sz + vals.length
      · by_cases q2 : j < off * i.sz
        · have q3 : j < es.length * i.sz := by omega
          simp only [q1, q2, q3, if_true]
        · simp only [q1, q2, if_true, if_false]
      · have q4 : off * i.sz + vals.length + (j - (off * i.sz + vals.length)) < es.length * i.sz := by omega
        simp only [q1, q4, if_true, if_false])
    (by
      have h1 : (es.take off ++ ys ++ es.drop (off + ys.length)).length = es.length := by simp; omega
      rw [h1]; simp; omega)
  exact ⟨_, hrun, this.1, this.2, rfl⟩
theorem zjI (hm : SRelM m S) {t ty : TypeId} {s x : AV} {vs vx : Value} {r : Res} (h : zM P m t s x = some r) (hs : VRel S s vs) (hx : VRel S x vx) :
    (∃ a u, r = .val a ∧ (Builtin.append_ #[t, t] ty #[vs, vx]).run P S.w = .ok u S.w ∧ VRel S a u) ∨
    (∃ sz es f, r = .mk sz es f ∧ ∀ i : Id, i.sz = sz → ¬ S.K i → Makes P (Builtin.append_ #[t, t] ty #[vs, vx]) S m i es (f i)) ∨
    (∃ old es es0 f, r = .mv old es f ∧ m old = some (.buf es0) ∧ ∀ i : Id, i.sz = old.sz → ¬ S.K i → Makes P (Builtin.append_ #[t, t] ty #[vs, vx]) S (fun j => if j = old then none else m j) i es (f i)) ∨
    (∃ i es es0 av, r = .wrv i es av ∧ m i = some (.buf es0) ∧ ∃ u S', (Builtin.append_ #[t, t] ty #[vs, vx]).run P S.w = .ok u S'.w ∧ Ev S S' ∧ SRelM (fun j => if j = i then some (.buf es) else m j) S' ∧ S'.K = S.K ∧ VRel S' av u) := by
  unfold zM zaa at h
  cases hu : P.underlying t with
  | none => simp [hu] at h
  | some d =>
    cases d <;> simp only [hu, reduceCtorEq] at h
    rename_i e
    cases hsz : z6 P e with
    | none => simp [hsz] at h
    | some n =>
      cases hby : zag P e with
      | none => simp [hsz, hby] at h
      | some by_ =>
        cases hz : z7 P e with
        | none => simp [hsz, hby, hz] at h
        | some z =>
          simp only [hsz, hby, hz] at h
          cases hel : zbT m x with
          | none => simp [hel] at h
          | some ys =>
            simp only [hel] at h
            split at h
            case isFalse => simp at h
            rename_i hc
            obtain ⟨c1, c2, c3, c4, c5⟩ := hc
            obtain ⟨bx, capx, l, rfl, hl, hllen, hysz, hread⟩ := ze2 (P := P) hm hel c1 hx
            have hzs : z.cells.size = n := by rw [← c2, (zba S z).length]; simp
            have hone := zcF c5 hl
            cases s <;> simp only [reduceCtorEq] at h
            · rename_i sz es full
              split at h
              case isFalse => simp at h
              rename_i hc2
              obtain ⟨d1, d2, d3⟩ := hc2
              have hs0 := hs
              simp only [VRel] at hs
              obtain ⟨base, cap, rfl, e1, e2, e3⟩ := hs
              have hcap := e2 d1
              subst hcap
              split at h
              · rename_i hy
                simp only [Option.some.injEq] at h
                subst h
                subst hy
                have hl0 : l = [] := List.eq_nil_of_length_eq_zero (by simpa using hllen)
                subst hl0
                refine .inl ⟨_, _, rfl, zfH hu hsz ⟨bx, capx, rfl⟩ (hread S.w (fun _ => rfl)) (by simp) (w' := S.w) (fun a _ => rfl) (fun _ => rfl), ?_⟩
                simpa using hs0
              · rename_i hy
                simp only [Option.some.injEq] at h
                subst h
                refine .inr (.inl ⟨_, _, _, rfl, fun i hisz hi => ?_⟩)
                have hpos : 0 < ys.length := List.length_pos_iff.2 hy
                obtain ⟨b0, cap0, l0, q1, q2, q3, q4, q5⟩ := ze2 (P := P) (n := n) hm (x := .sl sz es full) (ys := es) rfl (d2.imp id (fun h => h)) hs0
                simp only [Value.slice.injEq, true_and] at q1
                obtain ⟨rfl, rfl⟩ := q1
                have hbig : es.length + ys.length ≤ 2 ^ 47 := Nat.le_trans (Nat.le_mul_of_pos_right _ c4) d3
                obtain ⟨newCap, g1, g2⟩ := zhq (P := P) (ty := ty) hu hsz hby hz ⟨bx, capx, rfl⟩ (hread S.w.drew (fun _ => rfl)) (q5 S.w.drew (fun _ => rfl)) (by omega) d3 hbig
                have hsize : (l0.toArray ++ l.toArray ++ Builtin.zeroCells z.cells (newCap - (es.length + ys.length))).size = newCap * n := by
                  rw [Array.size_append, size_zeroCells, hzs, Array.size_append, List.size_toArray, List.size_toArray, q3, hllen, ← Nat.add_mul, ← Nat.add_mul]; congr 1; omega
                refine Makes.push hm g2 (zfI S _) hi (l := l0 ++ l) (by rw [zbm]; exact q2.append hl)
                  (fun e he => by rw [hisz]; rcases List.mem_append.1 he with he | he <;> first | exact q4 e he | exact hysz e he) zk9
                  (by rw [hsize, hisz, List.length_append]; exact Nat.mul_le_mul_right _ g1) ?_
                simp only [VRel]
                refine ⟨newCap, by simp [Ctx.push], g1, ?_, by simp [Ctx.push], .inr rfl⟩
                have hmu : (S.push (S.w.drew.alloc (.cells (l0.toArray ++ l.toArray ++ Builtin.zeroCells z.cells (newCap - (es.length + ys.length))) e)) i).mu i = S.w.heap.size := by simp [Ctx.push]
                rw [hmu]
                refine Eq.trans ?_ (zax (za1 (w := S.w) rfl)).symm
                rw [hsize, hisz]; simp
            · rename_i old off len
              cases hold : m old with
              | none => simp [hold] at h
              | some o =>
                cases o with
                | map _ => simp [hold] at h
                | loop _ _ _ _ _ _ _ _ => simp [hold] at h
                | bufx _ => simp [hold] at h
                | buf es =>
                  simp only [hold] at h
                  split at h
                  case isFalse =>
                    split at h
                    case isFalse => simp at h
                    rename_i hc2
                    obtain ⟨d1, d2, d3⟩ := hc2
                    simp only [Option.some.injEq] at h
                    subst h
                    subst d1
                    simp only [VRel] at hs
                    obtain ⟨cap, rfl, e1, e2, e3, e4⟩ := hs
                    obtain ⟨hK, hlt, hO, c, tt, hb, hle, hE⟩ := hm.live old _ hold
                    have hcs : cellsOf S.w (S.mu old) = c.size := zax hb
                    have hroom : len + ys.length ≤ cap := by
                      have h1 : es.length * n ≤ cap * n := by rw [← d3]; rw [hcs, Nat.zero_add] at e2; omega
                      have := Nat.le_of_mul_le_mul_right h1 c3
                      omega
                    obtain ⟨S', w1, w2, w3, w4⟩ := zfJ (P := P) hm hold (off := len) (ys := ys) d2 (fun e he => by rw [d3]; exact hysz e he) c5 hl
                    rw [d3] at w1
                    have hap := zfH (P := P) (ty := ty) (len := len) (k := ys.length) (cap := cap) (base := some ⟨S.mu old, 0 * old.sz, none⟩) hu hsz ⟨bx, capx, rfl⟩ (hread S.w (fun _ => rfl)) hroom
                      (w' := S'.w) (fun a ha => by
                        simp only [Option.some.injEq] at ha; subst ha; rw [zaQ]; simpa using w1) (fun h => by simp at h)
                    refine .inr (.inr (.inr ⟨old, _, es, _, rfl, hold, _, S', hap, w2, w3, w4, ?_⟩))
                    simp only [VRel]
                    have hmu := (w2.mu old e4).1
                    refine ⟨cap, by rw [hmu], hroom, ?_, ?_, ?_⟩
                    · rw [hmu, w2.cells _ hlt]; exact e2
                    · rw [hmu]; exact Nat.lt_of_lt_of_le hlt w2.size
                    · rw [w4]; exact e4
                  rename_i hc2
                  obtain ⟨d1, d2, d3, d4⟩ := hc2
                  simp only [Option.some.injEq] at h
                  subst h
                  subst d1
                  subst d2
                  have hs0 := hs
                  simp only [VRel] at hs
                  obtain ⟨cap, rfl, e1, e2, e3, e4⟩ := hs
                  refine .inr (.inr (.inl ⟨_, _, es, _, rfl, hold, fun i hisz hi => ?_⟩))
                  obtain ⟨hK, hlt, hO, c, tt, hb, hle, hE⟩ := hm.live old _ hold
                  obtain ⟨hv, _⟩ := ERel.values hb hE
                  have hsizes := hE.sizes
                  have hcs : cellsOf S.w (S.mu old) = c.size := zax hb
                  have hm' : SRelM (fun j => if j = old then none else m j) S := hm.less fun j o hj => by
                    by_cases e : j = old
                    · simp [e] at hj
                    · simpa [e] using hj
                  have hbig : es.length + ys.length ≤ 2 ^ 47 := Nat.le_trans (Nat.le_mul_of_pos_right _ c4) d4
                  by_cases hroom : es.length + ys.length ≤ cap
                  · -- in its own room
                    have hfit : es.length * old.sz + l.length ≤ c.size := by
                      rw [← hcs, ← e2, hllen, d3, ← Nat.add_mul]
                      exact Nat.mul_le_mul_right _ (by omega)
                    have hrun := run_storeCells_at P (S.mu old) (es.length * n) tt l 0 c S.w hb (by simp only [Nat.add_zero]; rw [← d3]; exact hfit) hone
                    simp only [Nat.add_zero] at hrun
                    have hap := zfH (P := P) (ty := ty) (len := es.length) (k := ys.length) (cap := cap) (base := some ⟨S.mu old, 0 * old.sz, none⟩) hu hsz ⟨bx, capx, rfl⟩ (hread S.w (fun _ => rfl)) hroom
                      (w' := S.w.setRow (S.mu old) (c.toList.take (es.length * n) ++ l ++ c.toList.drop (es.length * n + l.length)).toArray) (fun a ha => by
                        simp only [Option.some.injEq] at ha; subst ha; rw [zaQ]; simpa using hrun) (fun h => by simp at h)
                    have hsz' : ((c.toList.take (es.length * n) ++ l ++ c.toList.drop (es.length * n + l.length)).toArray).size = c.size := by
                      rw [← d3]; simp; omega
                    have hw := hm.write hold hb hsz' (es' := es ++ ys) (l := c.toList.take (es.length * n) ++ l)
                      (by rw [zbm, ← d3]; exact hv.append hl) (fun e he => by rcases List.mem_append.1 he with he | he <;> first | exact hsizes e he | (rw [d3]; exact hysz e he))
                      (fun j v hj => by
                        have hlt2 := (List.getElem?_eq_some_iff.1 hj).1
                        rw [List.getElem?_toArray, List.getElem?_append_left hlt2]; exact hj)
                      (by rw [hsz', List.length_append, Nat.add_mul]; rw [hllen, ← d3] at hfit; exact hfit)
                    obtain ⟨hev, hrel⟩ := hw
                    -- the same place under a new name
                    let S1 := S.at (S.w.setRow (S.mu old) (c.toList.take (es.length * n) ++ l ++ c.toList.drop (es.length * n + l.length)).toArray)
                    let S2 : Ctx := { S1 with mu := fun j => if j = i then S.mu old else S.mu j, K := fun j => S.K j ∨ j = i }
                    have hmu : ∀ j, S.K j → S2.mu j = S.mu j := fun j hj => by
                      have : j ≠ i := fun e => hi (e ▸ hj)
                      simp [S2, this]
                    have hev2 : Ev S1 S2 := ⟨Nat.le_refl _, fun _ _ _ => rfl, fun _ _ h => h, fun j hj => ⟨hmu j hj, .inl hj⟩, fun _ _ => rfl, rfl, rfl, rfl, rfl⟩
                    have hlive : ∀ j o, (if j = i then some (Ob.buf (es ++ ys)) else if j = old then none else m j) = some o → j = i ∧ o = .buf (es ++ ys) ∨ j ≠ i ∧ j ≠ old ∧ m j = some o := by
                      intro j o hj
                      by_cases q : j = i
                      · simp only [q, if_true, Option.some.injEq] at hj; exact .inl ⟨q, hj.symm⟩
                      · by_cases q2 : j = old
                        · rw [if_neg q, if_pos q2] at hj; cases hj
                        · simp only [q, q2, if_false] at hj; exact .inr ⟨q, q2, hj⟩
                    refine ⟨_, S2, hap, hev.trans hev2, ⟨fun j o hj => ?_, fun j j' hj hj' he => ?_⟩, ?_, fun j => Iff.rfl⟩
                    · rcases hlive j o hj with ⟨rfl, rfl⟩ | ⟨q1, q2, hj⟩
                      · obtain ⟨k1, k2, k3, c', t', k4, k5, k6⟩ := hrel.live old (.buf (es ++ ys)) (by simp)
                        have hmj : S2.mu j = S.mu old := by simp [S2]
                        refine ⟨.inr rfl, ?_, ?_, c', t', ?_, ?_, ?_⟩
                        · rw [hmj]; exact k2
                        · rw [hmj]; exact k3
                        · rw [hmj]; exact k4
                        · rw [hisz]; exact k5
                        · rw [hmj, hisz]; exact ERel.mono hev2.sub (fun _ => rfl) _ _ k6
                      · obtain ⟨k1, k2, k3, k4⟩ := hrel.live j o (by simpa [q2] using hj)
                        refine ⟨.inl k1, ?_, ?_, OBRel.mono hev2 k1 rfl k4⟩
                        · rw [hmu j k1]; exact k2
                        · rw [hmu j k1]; exact k3
                    · have hcase : ∀ j, (if j = i then some (Ob.buf (es ++ ys)) else if j = old then none else m j) ≠ none → j = i ∨ (j ≠ i ∧ j ≠ old ∧ m j ≠ none) := by
                        intro j hj
                        obtain ⟨o, ho⟩ := Option.ne_none_iff_exists'.1 hj
                        rcases hlive j o ho with ⟨q, _⟩ | ⟨q1, q2, q3⟩
                        · exact .inl q
                        · exact .inr ⟨q1, q2, by rw [q3]; simp⟩
                      have kn : ∀ j, m j ≠ none → S.K j := fun j hj => by
                        obtain ⟨o, ho⟩ := Option.ne_none_iff_exists'.1 hj
                        exact (hm.live j o ho).1
                      rcases hcase j hj with q | ⟨q1, q2, q3⟩ <;> rcases hcase j' hj' with p | ⟨p1, p2, p3⟩
                      · rw [q, p]
                      · rw [q, hmu j' (kn j' p3)] at he
                        simp [S2] at he
                        exact absurd (hm.inj old j' (by rw [hold]; simp) p3 he).symm p2
                      · rw [p, hmu j (kn j q3)] at he
                        simp [S2] at he
                        exact absurd (hm.inj j old q3 (by rw [hold]; simp) he) q2
                      · rw [hmu j (kn j q3), hmu j' (kn j' p3)] at he
                        exact hm.inj j j' q3 p3 he
                    · simp only [VRel]
                      have hmj : S2.mu i = S.mu old := by simp [S2]
                      refine ⟨cap, by rw [hmj]; simp, hroom, ?_, ?_, .inr rfl⟩
                      · rw [hmj, hisz]
                        have := hev.cells (S.mu old) hlt
                        exact e2.trans this.symm
                      · rw [hmj]; exact Nat.lt_of_lt_of_le hlt hev.size
                  · -- a new row
                    obtain ⟨b0, cap0, l0, q1, q2, q3, q4, q5⟩ := ze2 (P := P) (n := n) hm (x := .rs old 0 es.length) (ys := es) (by simp [zbT, hold]) (.inr d3) hs0
                    simp only [Value.slice.injEq, true_and] at q1
                    obtain ⟨rfl, rfl⟩ := q1
                    obtain ⟨newCap, g1, g2⟩ := zhq (P := P) (ty := ty) hu hsz hby hz ⟨bx, capx, rfl⟩ (hread S.w.drew (fun _ => rfl)) (q5 S.w.drew (fun _ => rfl)) (by omega) d4 hbig
                    have hsize : (l0.toArray ++ l.toArray ++ Builtin.zeroCells z.cells (newCap - (es.length + ys.length))).size = newCap * n := by
                      rw [Array.size_append, size_zeroCells, hzs, Array.size_append, List.size_toArray, List.size_toArray, q3, hllen, ← Nat.add_mul, ← Nat.add_mul]; congr 1; omega
                    refine Makes.push hm' g2 (zfI S _) hi (l := l0 ++ l) (by rw [zbm]; exact q2.append hl)
                      (fun e he => by rw [hisz, d3]; rcases List.mem_append.1 he with he | he <;> first | exact q4 e he | exact hysz e he) zk9
                      (by rw [hsize, hisz, d3, List.length_append]; exact Nat.mul_le_mul_right _ g1) ?_
                    simp only [VRel]
                    refine ⟨newCap, by simp [Ctx.push], g1, ?_, by simp [Ctx.push], .inr rfl⟩
                    have hmu : (S.push (S.w.drew.alloc (.cells (l0.toArray ++ l.toArray ++ Builtin.zeroCells z.cells (newCap - (es.length + ys.length))) e)) i).mu i = S.w.heap.size := by simp [Ctx.push]
                    rw [hmu]
                    refine Eq.trans ?_ (zax (za1 (w := S.w) rfl)).symm
                    rw [hsize, hisz, d3]; simp
theorem zm8 (S : Ctx) {z : Value} {n : Nat} (hn : (zC z).cells.length = n) (hpos : 0 < n) : ∀ k : Nat, LRel S (zs (List.replicate k (zC z))) (Builtin.zeroCells z.cells k).toList := by
  have hsz : z.cells.size = n := by rw [← hn, (zba S z).length]; simp
  have h0 : (Builtin.zeroCells z.cells 0).toList = [] := by simp [Builtin.zeroCells]
  have hs : ∀ k, (Builtin.zeroCells z.cells (k + 1)).toList = (Builtin.zeroCells z.cells k).toList ++ z.cells.toList := by
    intro k
    apply List.ext_getElem?
    intro j
    rw [List.getElem?_append]
    simp only [Builtin.zeroCells, Array.getElem?_toList, Array.getElem?_map, Array.length_toList, Array.size_map, Array.size_range]
    rw [hsz]
    by_cases hj : j < k * n
    · rw [if_pos hj, Array.getElem?_range, Array.getElem?_range, if_pos (by rw [Nat.add_mul]; omega), if_pos hj]
    · rw [if_neg hj, Array.getElem?_range]
      by_cases hj2 : j < (k + 1) * n
      · rw [if_pos hj2]
        have hlt : j - k * n < n := by rw [Nat.add_mul] at hj2; omega
        have hm : j % n = j - k * n := by
          have : j = (j - k * n) + k * n := by omega
          conv => lhs; rw [this]
          rw [Nat.add_mul_mod_self_right, Nat.mod_eq_of_lt hlt]
        simp only [Option.map_some, hm]
        rw [getElem!_pos z.cells _ (by rw [hsz]; exact hlt), Array.getElem?_eq_getElem (by rw [hsz]; exact hlt)]
      · rw [if_neg hj2]
        rw [Array.getElem?_eq_none (by rw [hsz]; rw [Nat.add_mul] at hj2; omega)]
        rfl
  intro k
  induction k with
  | zero => rw [h0]; simp [zs, LRel]
  | succ k ih =>
    rw [hs, List.replicate_succ']
    rw [zbm]
    refine ih.append ?_
    have := zba S z
    simpa [zs] using this
theorem zlx (hm : SRelM m S) {t u ty : TypeId} {s x : AV} {vs vx : Value} {r : Res} (h : zdX P t u s x = some r) (hs : VRel S s vs) (hx : VRel S x vx) :
    ∃ sz es f, r = .mk sz es f ∧ ∀ i : Id, i.sz = sz → ¬ S.K i → Makes P (Builtin.append_ #[t, u] ty #[vs, vx]) S m i es (f i) := by
  unfold zdX zaa zcg at h
  cases hu : P.underlying t with
  | none => simp [hu] at h
  | some d =>
    cases d <;> simp only [hu, reduceCtorEq] at h
    rename_i e
    cases huu : P.underlying u with
    | none => simp [huu] at h
    | some d2 =>
      cases d2 <;> simp only [huu, reduceCtorEq] at h
      rename_i ki
      cases hsz : z6 P e with
      | none => simp [hsz] at h
      | some n =>
        cases hby : zag P e with
        | none => simp [hsz, hby] at h
        | some by_ =>
          cases hz : z7 P e with
          | none => simp [hsz, hby, hz] at h
          | some z =>
            simp only [hsz, hby, hz] at h
            split at h
            case h_2 => simp at h
            rename_i sz0 k0 kk
            split at h
            case isFalse => simp at h
            rename_i hc
            obtain ⟨c1, c2, c3, c4, c5⟩ := hc
            simp only [Option.some.injEq] at h
            subst h
            simp only [VRel] at hs hx
            subst hx
            obtain ⟨base, cap, rfl, e1, e2, e3⟩ := hs
            have hcap := e2 trivial
            simp only [List.length_nil] at hcap
            subst hcap
            refine ⟨_, _, _, rfl, fun i hisz hi => ?_⟩
            obtain ⟨k, rfl⟩ : ∃ k : Nat, kk = k := ⟨kk.toNat, by omega⟩
            simp only [Int.toNat_natCast] at c5 ⊢
            have hkb : k ≤ 2 ^ 47 := Nat.le_trans (Nat.le_mul_of_pos_right _ c3) c5
            obtain ⟨ti, hi1, hib⟩ := zc5 (P := P) hby S.w
            obtain ⟨ti', hi1', hib'⟩ := zc5 (P := P) hby S.w.drew
            have hw : IntKind.i64.wrap (k : Int) = k := by
              show (if (true && decide ((k : Int) % 18446744073709551616 ≥ 9223372036854775808)) = true then (k : Int) % 18446744073709551616 - 18446744073709551616 else (k : Int) % 18446744073709551616) = k
              have h1 : (k : Int) % 18446744073709551616 = k := by omega
              rw [h1, if_neg (by simp; omega)]
            have hk1 : ¬ ((k : Int) < 0) := by omega
            have hk2 : ¬ (281474976710656 < (k : Int) * by_) := by
              have : ((k * by_ : Nat) : Int) ≤ ((2 ^ 47 : Nat) : Int) := by exact_mod_cast c5
              rw [Int.natCast_mul] at this
              have e47 : ((2 ^ 47 : Nat) : Int) = 140737488355328 := by decide
              omega
            have hnx : Builtin.nextslicecap k 0 = k := by unfold Builtin.nextslicecap; rw [if_pos (by omega)]
            have hk3 : ¬ (281474976710656 < k * by_) := by
              have e47 : (2 ^ 47 : Nat) = 140737488355328 := by decide
              omega
            have hzs : z.cells.size = n := by rw [← c1, (zba S z).length]; simp
            have hkn : ¬ (k = 0 ∨ n = 0) := by omega
            have hk0 : ¬ (k = 0) := by omega
            have hk4 : ¬ ((9223372036854775807 : Int) < (k : Int)) := by omega
            have hn0 : ¬ n = 0 := by omega
            have hkn0 : ¬ k * n = 0 := by rw [Nat.mul_eq_zero]; exact hkn
            refine Makes.push hm (w' := S.w.drew.alloc (.cells (Builtin.zeroCells z.cells k ++ Builtin.zeroCells z.cells (grownCap S.w k 0 e - k)) e)) (c := Builtin.zeroCells z.cells k ++ Builtin.zeroCells z.cells (grownCap S.w k 0 e - k)) (t := e)
              (v := .slice (some ⟨S.w.heap.size, 0, none⟩) k (grownCap S.w k 0 e)) ?_ (zfI S _) hi (l := (Builtin.zeroCells z.cells k).toList) (zm8 S c1 c2 k) ?_ ?_ ?_ ?_
            · cases base <;> simp [Builtin.append_, run_underlying hu, run_underlying huu, zU hsz, hi1, hib, hi1', hib', hw, hk1, hk2, hk0, hnx, hk3, hk4, hn0, Question.forced, zbn hz, newRow, grownCap, Builtin.firstCells, loadCells, loadCellsFrom, asInt, asIntOf, hkn0]
            · intro e' he'
              rw [List.eq_of_mem_replicate he', hisz]; exact c1
            · intro j v hj
              have hlt := (List.getElem?_eq_some_iff.1 hj).1
              rw [Array.getElem?_append_left (by simpa using hlt)]
              simpa using hj
            · rw [Array.size_append, size_zeroCells, size_zeroCells, hzs, hisz, List.length_replicate]; omega
            · have hge : k ≤ grownCap S.w k 0 e := by unfold grownCap; simp [Question.cut]
              simp only [VRel]
              refine ⟨grownCap S.w k 0 e, by simp [Ctx.push], hge, ?_, by simp [Ctx.push], .inr rfl⟩
              have hmu : (S.push (S.w.drew.alloc (.cells (Builtin.zeroCells z.cells k ++ Builtin.zeroCells z.cells (grownCap S.w k 0 e - k)) e)) i).mu i = S.w.heap.size := by simp [Ctx.push]
              rw [hmu]
              refine Eq.trans ?_ (zax (za1 (w := S.w) rfl)).symm
              rw [Array.size_append, size_zeroCells, size_zeroCells, hzs, hisz, ← Nat.add_mul, Nat.add_sub_cancel' hge, Nat.zero_add]
theorem zml {t ty : TypeId} {x r : AV} {v : Value} (h : zhi P t x = some r) (hx : VRel S x v) : ∃ u, (Builtin.cap_ #[t] ty #[v]).run P S.w = .ok u S.w ∧ VRel S r u := by
  unfold zhi zaa at h
  cases hu : P.underlying t with
  | none => simp [hu] at h
  | some d =>
    cases d <;> simp only [hu, reduceCtorEq] at h
    rename_i e
    split at h
    · rename_i es h1
      simp only [Option.some.injEq] at h
      subst h
      simp only [VRel] at hx
      obtain ⟨base, cap, rfl, _, e2, _⟩ := hx
      have := e2 trivial
      subst this
      exact ⟨_, by simp [Builtin.cap_, run_underlying hu, goInt]; rfl, by simp [VRel]⟩
    · simp at h
end
end Go.Proofs.YtckabcbfbpejkaaGreatDoor.Av
