/- Rules: the laws RuleTexts, RuleMatches. Part 6 of 22: AvMap, AvClr, AvAop. -/
import Derived.Test.YtckabcbfbpejkaaGreatDoorRy5
import Derived.MapKept
import Derived.WideKeyRuns
import Derived.RangeFuncRecord
namespace Go.Proofs.YtckabcbfbpejkaaGreatDoor.Av
open Go
set_option linter.unusedSimpArgs false
set_option linter.unusedVariables false
section
variable {P : Program} {m : zL} {S : Ctx}
theorem zhs : ∀ {cs : List AV} {l vs : List Value}, zfB cs = some l → LRel S cs vs → vs = l
  | [], l, vs, h, hr => by simp only [zfB, Option.some.injEq] at h; subst h; simpa [LRel] using hr
  | a :: cs, l, vs, h, hr => by
    obtain ⟨v, vs', rfl, h1, h2⟩ := hr
    cases a <;> simp only [zfB, Option.map_eq_some_iff, reduceCtorEq] at h
    obtain ⟨l', h3, rfl⟩ := h
    simp only [VRel] at h1
    rw [h1, zhs h3 h2]
theorem zly {k : AV} {kv x : Value} (h : zjr k = some kv) (hr : VRel S k x) : x = kv := by
  cases k <;> simp only [zjr, Option.map_eq_some_iff, reduceCtorEq, Option.some.injEq] at h
  · simp only [VRel] at hr; rw [hr, h]
  · obtain ⟨l, h1, rfl⟩ := h
    simp only [VRel] at hr
    obtain ⟨l', rfl, h2⟩ := hr
    rw [← zhs h1 h2]
theorem zgx {t : TypeId} (h : zbA P t = true) (e : Bool) (n : Nat) (v : Value) (w : World) : (Instr.checkKey e (n + 1) t v).run P w = .ok () w := by
  unfold zbA zcg zeV zdT at h
  cases hu : P.underlying t with
  | none => simp [hu] at h
  | some d => cases d <;> simp [hu] at h <;> simp [Instr.checkKey, run_underlying hu]
theorem zht {t : TypeId} {k : AV} {kv : Value} (h : zhf P t k = true) (hk : VRel S k kv) (e : Bool) : (Instr.checkKey e 10000 t kv).run P S.w = .ok () S.w := by
  unfold zhf at h
  split at h
  · rename_i cs
    simp only [VRel] at hk
    obtain ⟨l, rfl, hl⟩ := hk
    unfold zb1 fieldsOf at h
    cases hu : P.underlying t with
    | none => simp [hu] at h
    | some dd =>
      cases dd <;> simp only [hu, Option.bind_none, Bool.false_eq_true] at h
      rename_i fs
      simp only [Option.bind_some] at h
      by_cases hc : (fs.toList.all (fun f => !(f.name == "_")) && !P.stoodInHeld t) = true
      · rw [if_pos hc] at h
        simp only [List.all_map, List.all_eq_true, Function.comp, Bool.and_eq_true] at h hc
        have e1 : (10000 : Nat) = 9999 + 1 := rfl
        rw [e1, Instr.checkKey]
        simp only [Sem.run_bind, run_underlying hu, Result.andThen_ok]
        rw [← Array.forIn_toList]
        have each : ∀ f ∈ fs.toList, f.name ≠ "_" ∧ zbA P f.type = true ∧ ∃ a, (part f.type l f.offset).run P S.w = .ok a S.w := fun f hf => by
          have h1 := h f hf
          have h2 := hc.1 f hf
          obtain ⟨r, hr⟩ := Option.isSome_iff_exists.1 h1.2
          obtain ⟨v, hv, _⟩ := zdZ hr hl
          exact ⟨by simpa using h2, h1.1, v, hv⟩
        clear h hc
        generalize fs.toList = L at each
        induction L with
        | nil => simp
        | cons f L ih =>
          obtain ⟨hn, hp, a, p1⟩ := each f (by simp)
          have p2 := zgx hp e 9998 a S.w
          simp only [List.forIn_cons, Sem.run_bind, hn, ne_eq, not_false_eq_true, if_true, Result.andThen_ok, p1, p2, Sem.run_pure]
          exact ih (fun y hy => each y (by simp [hy]))
      · rw [if_neg hc] at h; simp at h
  · exact zgx h e 9999 _ _
  · simp at h
theorem zc6 {kt : TypeId} {k : AV} : ∀ {l l0 : List (Value × AV)}, l0.Perm l → ∀ {a b}, zbd P kt k l = some (a, b) → ∃ a0 b0, zbd P kt k l0 = some (a0, b0) ∧ a0.Perm a ∧ b0.Perm b := by
  intro l l0 h
  induction h with
  | nil => intro a b h; exact ⟨a, b, h, List.Perm.refl _, List.Perm.refl _⟩
  | cons x h ih =>
    intro a b h
    simp only [zbd] at h ⊢
    split at h
    · rename_i e
      simp only [Option.map_eq_some_iff, Prod.mk.injEq] at h
      obtain ⟨p, hp, rfl, rfl⟩ := h
      obtain ⟨a0, b0, h1, h2, h3⟩ := ih (a := p.1) (b := p.2) hp
      exact ⟨x :: a0, b0, by rw [h1]; rfl, h2.cons _, h3⟩
    · rename_i e
      simp only [Option.map_eq_some_iff, Prod.mk.injEq] at h
      obtain ⟨p, hp, rfl, rfl⟩ := h
      obtain ⟨a0, b0, h1, h2, h3⟩ := ih (a := p.1) (b := p.2) hp
      exact ⟨a0, x :: b0, by rw [h1]; rfl, h2, h3.cons _⟩
    · cases h
  | swap x y l =>
    intro a b h
    simp only [zbd] at h ⊢
    cases hx : zaq P 4 kt k (zC x.1) with
    | none => rw [hx] at h; cases hy : zaq P 4 kt k (zC y.1) with
      | none => rw [hy] at h; simp at h
      | some q => rw [hy] at h; cases q <;> simp at h
    | some p =>
      cases hy : zaq P 4 kt k (zC y.1) with
      | none => rw [hx, hy] at h; cases p <;> simp at h
      | some q =>
        rw [hx, hy] at h
        cases hl : zbd P kt k l with
        | none => rw [hl] at h; cases p <;> cases q <;> simp at h
        | some r =>
          rw [hl] at h
          cases p <;> cases q <;> simp only [Option.map_some, Option.some.injEq, Prod.mk.injEq] at h ⊢ <;> obtain ⟨rfl, rfl⟩ := h <;>
            exact ⟨_, _, ⟨rfl, rfl⟩, by first | exact List.Perm.refl _ | exact List.Perm.swap _ _ _, by first | exact List.Perm.refl _ | exact List.Perm.swap _ _ _⟩
  | trans _ _ ih1 ih2 =>
    intro a b h
    obtain ⟨a1, b1, h1, h2, h3⟩ := ih2 h
    obtain ⟨a0, b0, g1, g2, g3⟩ := ih1 h1
    exact ⟨a0, b0, g1, g2.trans h2, g3.trans h3⟩
theorem zdz {kt : TypeId} {k : AV} : ∀ {l a b : List (Value × AV)}, zbd P kt k l = some (a, b) → l.Perm (a ++ b)
  | [], a, b, h => by simp only [zbd, Option.some.injEq, Prod.mk.injEq] at h; obtain ⟨rfl, rfl⟩ := h; exact List.Perm.refl _
  | x :: l, a, b, h => by
    simp only [zbd] at h
    split at h
    · simp only [Option.map_eq_some_iff, Prod.mk.injEq] at h
      obtain ⟨p, hp, rfl, rfl⟩ := h
      exact (zdz (a := p.1) (b := p.2) hp).cons x
    · simp only [Option.map_eq_some_iff, Prod.mk.injEq] at h
      obtain ⟨p, hp, rfl, rfl⟩ := h
      exact ((zdz (a := p.1) (b := p.2) hp).cons x).trans List.perm_middle.symm
    · cases h
theorem zcG {kt : TypeId} {k : AV} {kv : Value} (hk : VRel S k kv) : ∀ (ents : List (Value × AV)) (es : List MapEntry) (a b : List (Value × AV)) (i : Nat), zbd P kt k ents = some (a, b) → es.map (·.key) = ents.map (·.1) →
    (a = [] ∧ (Instr.findAsking kt kv es i).run P S.w = .ok none S.w) ∨ ∃ j e p, a.head? = some p ∧ ents[j]? = some p ∧ es[j]? = some e ∧ (Instr.findAsking kt kv es i).run P S.w = .ok (some (i + j, e.val)) S.w
  | [], es, a, b, i, h, he => by
    simp only [zbd, Option.some.injEq, Prod.mk.injEq] at h
    have : es = [] := by simpa using he
    subst this
    exact .inl ⟨h.1.symm, by simp [Instr.findAsking]⟩
  | p :: ents, [], a, b, i, h, he => by simp at he
  | p :: ents, x :: es, a, b, i, h, he => by
    simp only [List.map_cons, List.cons.injEq] at he
    obtain ⟨he1, he2⟩ := he
    simp only [zbd] at h
    have heq : ∀ b, zaq P 4 kt k (zC p.1) = some b → (Op.equal kt kv x.key).run P S.w = .ok b S.w := fun b hb => by
      rw [he1]
      exact zd0 4 kt k (zC p.1) b kv p.1 hb hk (zdt S p.1) 9995
    split at h
    · rename_i hb
      simp only [Option.map_eq_some_iff, Prod.mk.injEq] at h
      obtain ⟨q, hq, rfl, rfl⟩ := h
      exact .inr ⟨0, x, p, rfl, rfl, rfl, by simp [Instr.findAsking, heq _ hb]⟩
    · rename_i hb
      simp only [Option.map_eq_some_iff, Prod.mk.injEq] at h
      obtain ⟨q, hq, rfl, rfl⟩ := h
      rcases zcG hk ents es q.1 q.2 (i + 1) hq he2 with ⟨h1, h2⟩ | ⟨j, e, r, h0, h1, h2, h3⟩
      · exact .inl ⟨h1, by simp [Instr.findAsking, heq _ hb, h2]⟩
      · exact .inr ⟨j + 1, e, r, h0, by simpa using h1, by simpa using h2, by simp [Instr.findAsking, heq _ hb, h3, Nat.add_assoc, Nat.add_comm 1 j]⟩
    · simp at h
theorem zhu {kt : TypeId} (hw : zeW P kt = true) (kv : Value) (es : List MapEntry) (w : World) : (Instr.findKey kt kv es).run P w = (Instr.findAsking kt kv es).run P w := by
  refine run_findKey_eq w ?_ kv es
  unfold zeW at hw
  split at hw
  · rename_i h; rw [h]
  · simp at hw
theorem zfv {t kt et : TypeId} (h : zdV P t = some (kt, et)) : P.underlying t = some (.map kt et) := by
  unfold zdV at h
  split at h
  · rename_i hu; simp only [Option.some.injEq, Prod.mk.injEq] at h; obtain ⟨rfl, rfl⟩ := h; exact hu
  · simp at h
theorem zjJ (hm : SRelM m S) {t : TypeId} {x k r : AV} {ok : Bool} {vx vk : Value} (h : za2 P m t x k ok = some r) (hx : VRel S x vx) (hk : VRel S k vk) : ∃ u, (Instr.lookup t vx vk ok).run P S.w = .ok u S.w ∧ VRel S r u := by
  unfold za2 at h
  split at h
  · rename_i kt et i hmt
    have hu := zfv hmt
    split at h
    · rename_i ents hi
      split at h
      · rename_i hc
        obtain ⟨hc1, hc2⟩ := hc
        simp only [VRel] at hx
        obtain ⟨rfl, _⟩ := hx
        obtain ⟨_, _, _, es, clock, e0, hb, hperm, hke, hv, _, _⟩ := hm.live i _ hi
        have hchk := zht hc1 hk es.isEmpty
        have hget := MapKept.run_getObj_map (P := P) hb
        have hfind := zhu (P := P) hc2 vk es.toList S.w
        have pre : ∀ (q : Option (Nat × Value)), (Instr.findAsking kt vk es.toList).run P S.w = .ok q S.w → (Instr.lookup t (.map (some (S.mu i))) vk ok).run P S.w =
            (do let (v, b) ← match q with
                  | some (_, v) => pure (v, true)
                  | none => pure (← zeroValue et, false)
                pure (if ok then .tuple #[v, .bool b] else v) : Sem Value).run P S.w := fun q hq => by
          simp only [Instr.lookup, Sem.run_bind, run_underlying hu, Result.andThen_ok, hget, Sem.run_pure, hchk, hfind, hq]
          cases q <;> rfl
        split at h
        · rename_i p b hs
          obtain ⟨a0, b0, g1, g2, g3⟩ := zc6 hperm hs
          have ha0 : a0 = [p] := List.perm_singleton.1 g2
          subst ha0
          rcases zcG hk e0 es.toList _ _ 0 g1 hke with ⟨h1, _⟩ | ⟨j, e, p', h0, h1, h2, h3⟩
          · simp at h1
          · simp only [List.head?_cons, Option.some.injEq] at h0
            subst h0
            simp only [Option.some.injEq] at h
            subst h
            have hvr : VRel S p.2 e.val := by
              obtain ⟨v, q1, q2⟩ := hv.get (i := j) (a := p.2) (by simp [h1])
              simp only [List.getElem?_map, h2, Option.map_some, Option.some.injEq] at q1
              rw [q1]; exact q2
            rw [pre _ h3]
            cases ok
            · exact ⟨e.val, by simp, by simpa using hvr⟩
            · exact ⟨.tuple #[e.val, .bool true], by simp, by simpa [VRel, LRel] using hvr⟩
        · rename_i b hs
          obtain ⟨a0, b0, g1, g2, g3⟩ := zc6 hperm hs
          have ha0 : a0 = [] := List.perm_nil.1 g2
          subst ha0
          rcases zcG hk e0 es.toList _ _ 0 g1 hke with ⟨_, h3⟩ | ⟨j', e, p', h0, _, _, _⟩
          · simp only [Option.map_eq_some_iff] at h
            obtain ⟨z, hz, rfl⟩ := h
            rw [pre _ h3]
            cases ok
            · exact ⟨z, by simp [zbn hz], by simpa using zdt S z⟩
            · exact ⟨.tuple #[z, .bool false], by simp [zbn hz], by simpa [VRel, LRel] using zdt S z⟩
          · simp at h0
        · simp at h
      · simp at h
    · simp at h
  · simp at h
theorem LRel.set {a : AV} {v : Value} (hr : VRel S a v) : ∀ {as : List AV} {vs : List Value} {j : Nat}, LRel S as vs → LRel S (as.set j a) (vs.set j v)
  | [], _, _, h => by simp only [LRel] at h; subst h; simp [LRel]
  | x :: as, _, 0, h => by obtain ⟨y, vs, rfl, h1, h2⟩ := h; exact ⟨v, vs, rfl, hr, h2⟩
  | x :: as, _, j + 1, h => by obtain ⟨y, vs, rfl, h1, h2⟩ := h; exact ⟨y, _, rfl, h1, LRel.set hr h2⟩
theorem SRelM.putM (h : SRelM m S) {i : Id} {ents ents' : List (Value × AV)} (hi : m i = some (.map ents)) {es' : Array MapEntry} {clock' : Nat} {e0 : List (Value × AV)} (hp : e0.Perm ents') (hk : es'.toList.map (·.key) = e0.map (·.1)) (hv : LRel S (e0.map (·.2)) (es'.toList.map (·.val)))
    (hb : ∀ e ∈ es'.toList, e.born < clock') (hn : (es'.toList.map (·.born)).Nodup) :
    Ev S (S.at (S.w.putObj (S.mu i) (.map es' clock'))) ∧ SRelM (fun j => if j = i then some (.map ents') else m j) (S.at (S.w.putObj (S.mu i) (.map es' clock'))) := by
  obtain ⟨hK, hlt, hO, es, clock, e00, h1, _⟩ := h.live i _ hi
  have hsame := World.putObj_heap_same (w := S.w) (o := .map es' clock') hlt
  have hne : ∀ c, c ≠ S.mu i → (S.w.putObj (S.mu i) (.map es' clock')).heap[c]? = S.w.heap[c]? := fun c hc => World.putObj_heap_other hc
  have hcells : cellsOf (S.w.putObj (S.mu i) (.map es' clock')) (S.mu i) = cellsOf S.w (S.mu i) := by simp [cellsOf, World.shape?, hsame, h1]
  have k : Ev S (S.at (S.w.putObj (S.mu i) (.map es' clock'))) := Ev.write hO (by simp) hne hcells ⟨rfl, rfl, rfl⟩
  refine ⟨k, ⟨fun j o hj => ?_, fun j j' hj hj' he => ?_⟩⟩
  · by_cases e : j = i
    · subst e
      simp only [if_true, Option.some.injEq] at hj
      subst hj
      exact ⟨hK, Nat.lt_of_lt_of_le hlt k.size, hO, es', clock', e0, hsame, hp, hk, LRel.mono k.sub _ _ hv, hb, hn⟩
    · simp only [e, if_false] at hj
      obtain ⟨g1, g2, g3, g4⟩ := h.live j o hj
      have hjb : S.mu j ≠ S.mu i := fun x => e (h.inj j i (by rw [hj]; simp) (by rw [hi]; simp) x)
      exact ⟨g1, Nat.lt_of_lt_of_le g2 k.size, g3, OBRel.mono k g1 (hne _ hjb) g4⟩
  · have old : ∀ j, (if j = i then some (Ob.map ents') else m j) ≠ none → m j ≠ none := fun j hj => by
      by_cases e : j = i
      · subst e; rw [hi]; simp
      · simpa only [e, if_false] using hj
    exact h.inj j j' (old j hj) (old j' hj') he
theorem zhv (hm : SRelM m S) {t : TypeId} {x k v : AV} {r : Res} {vx vk vv : Value} (h : zaT P m t x k v = some r) (hx : VRel S x vx) (hk : VRel S k vk) (hvv : VRel S v vv) :
    ∃ i ents ents', r = .wrm i ents' ∧ m i = some (.map ents) ∧ ∃ S', (Instr.mapUpdate t vx vk vv).run P S.w = .ok () S'.w ∧ Ev S S' ∧ SRelM (fun j => if j = i then some (.map ents') else m j) S' ∧ S'.K = S.K := by
  unfold zaT at h
  split at h
  · rename_i kt et i kv hmt hkv
    have hu := zfv hmt
    have := zly hkv hk
    subst this
    split at h
    · rename_i ents hi
      split at h
      · rename_i hc
        obtain ⟨hc1, hc2⟩ := hc
        simp only [VRel] at hx
        obtain ⟨rfl, _⟩ := hx
        obtain ⟨_, _, _, es, clock, e0, hb, hperm, hke, hv, hborn, hnd⟩ := hm.live i _ hi
        have hchk := zht hc1 hk false
        have hget := MapKept.run_getObj_map (P := P) hb
        have hfind := zhu (P := P) hc2 vk es.toList S.w
        have hset : ∀ o, (setObj (S.mu i) o).run P S.w = .ok () (S.w.putObj (S.mu i) o) := fun o => MapKept.run_setObj_map o hb
        split at h
        · rename_i p b hs
          obtain ⟨a0, b0, g1, g2, g3⟩ := zc6 hperm hs
          have ha0 : a0 = [p] := List.perm_singleton.1 g2
          subst ha0
          have gall := zdz g1
          rcases zcG hk e0 es.toList _ _ 0 g1 hke with ⟨h1, _⟩ | ⟨j, e, p', h0, hp, h2, h3⟩
          · simp at h1
          · simp only [List.head?_cons, Option.some.injEq] at h0
            subst h0
            split at h
            · rename_i hsb
              simp only [Option.some.injEq] at h
              subst h
              have hkey : e.key = p.1 := by
                have := congrArg (·[j]?) hke
                simpa [h2, hp] using this
              have hes : es[j]? = some e := by rw [← Array.getElem?_toList]; exact h2
              have hj' : j < es.size := (Array.getElem?_eq_some_iff.1 hes).1
              have hme : es[j] = e := (Array.getElem?_eq_some_iff.1 hes).2
              have hje : j < e0.length := (List.getElem?_eq_some_iff.1 hp).1
              let es' := es.modify j fun e => { e with key := vk, val := vv }
              have hl : es'.toList = es.toList.set j { e with key := vk, val := vv } := by
                apply List.ext_getElem?
                intro q
                simp only [es', Array.getElem?_toList, Array.getElem?_modify, List.getElem?_set, Array.length_toList]
                by_cases hq : j = q
                · subst hq; simp [hj', hme]
                · simp [hq]
              have hpm : (e0.set j (vk, v)).Perm (b ++ [(vk, v)]) := by
                have q1 : e0 = e0.take j ++ p :: e0.drop (j + 1) := by
                  rw [← (List.getElem?_eq_some_iff.1 hp).2, List.getElem_cons_drop, List.take_append_drop]
                have q2 : (p :: (e0.take j ++ e0.drop (j + 1))).Perm (p :: b0) := by
                  refine List.perm_middle.symm.trans ?_
                  rw [← q1]
                  exact gall
                have q3 := (List.perm_cons p).1 q2
                rw [List.set_eq_take_append_cons_drop, if_pos hje]
                exact List.perm_middle.trans (((q3.trans g3).cons _).trans (List.perm_append_singleton _ _).symm)
              obtain ⟨q1, q2⟩ := hm.putM hi (es' := es') (clock' := clock) (ents' := b ++ [(vk, v)]) (e0 := e0.set j (vk, v)) hpm (by rw [hl]; simp [List.map_set, hke]) (by
                  rw [hl, List.map_set, List.map_set]
                  exact LRel.set hvv hv) (by
                  rw [hl]
                  intro y hy
                  rcases List.mem_or_eq_of_mem_set hy with hy | rfl
                  · exact hborn y hy
                  · exact hborn e (List.mem_of_getElem? h2)) (by
                  rw [hl, List.map_set]
                  have : (es.toList.map (·.born)).set j e.born = es.toList.map (·.born) := by
                    apply List.ext_getElem?
                    intro q
                    simp only [List.getElem?_set, List.getElem?_map, List.length_map, Array.length_toList]
                    by_cases hq : j = q
                    · subst hq; simp [hj', hme]
                    · simp [hq]
                  rw [this]; exact hnd)
              refine ⟨i, ents, _, rfl, hi, _, ?_, q1, q2, rfl⟩
              have hkt : (Instr.keyThatStays (((es[j]?).map (·.key)).getD vk) vk).run P S.w = .ok vk S.w := by
                rw [hes]
                simp [Instr.keyThatStays, hkey, hsb]
              simp only [Instr.mapUpdate, Sem.run_bind, run_underlying hu, Result.andThen_ok, hget, hchk, hfind, h3, Nat.zero_add, hkt, hset]
              rfl
            · simp at h
        · rename_i b hs
          obtain ⟨a0, b0, g1, g2, g3⟩ := zc6 hperm hs
          have ha0 : a0 = [] := List.perm_nil.1 g2
          subst ha0
          have gall := zdz g1
          rcases zcG hk e0 es.toList _ _ 0 g1 hke with ⟨_, h3⟩ | ⟨j', e, p', h0, _, _, _⟩
          · simp only [Option.some.injEq] at h
            subst h
            obtain ⟨q1, q2⟩ := hm.putM hi (es' := es.push { key := vk, val := vv, born := clock }) (clock' := clock + 1) (ents' := b ++ [(vk, v)]) (e0 := e0 ++ [(vk, v)])
              (by rw [List.nil_append] at gall; exact (gall.trans g3).append_right _) (by simp [hke]) (by
                simp only [Array.toList_push, List.map_append, List.map_cons, List.map_nil]
                exact LRel.append hv ⟨_, _, rfl, hvv, rfl⟩) (by
                intro y hy
                simp only [Array.toList_push, List.mem_append, List.mem_singleton] at hy
                rcases hy with hy | rfl
                · exact Nat.lt_succ_of_lt (hborn y hy)
                · exact Nat.lt_succ_self _) (by
                simp only [Array.toList_push, List.map_append, List.map_cons, List.map_nil]
                rw [List.nodup_append]
                refine ⟨hnd, by simp, fun a ha b hb e => ?_⟩
                simp only [List.mem_singleton] at hb
                subst e; subst hb
                obtain ⟨y, hy, rfl⟩ := List.mem_map.1 ha
                exact absurd (hborn y hy) (Nat.lt_irrefl _))
            refine ⟨i, ents, _, rfl, hi, _, ?_, q1, q2, rfl⟩
            simp only [Instr.mapUpdate, Sem.run_bind, run_underlying hu, Result.andThen_ok, hget, hchk, hfind, h3, hset]
            rfl
          · simp at h0
        · simp at h
      · simp at h
    · simp at h
  · simp at h
theorem SRelM.pushM (h : SRelM m S) {w' : World} {o : Obj} (hw : zcD S.w w' o) {i : Id} (hi : ¬ S.K i) {ob : Ob} (hob : OBRel (S.push w' i) i ob) : SRelM (fun j => if j = i then some ob else m j) (S.push w' i) where
  live := fun j o hj => by
    have k := Ev.push hw hi
    by_cases e : j = i
    · subst e
      simp only [if_true, Option.some.injEq] at hj
      subst hj
      have hmu : (S.push w' j).mu j = S.w.heap.size := by simp [Ctx.push]
      refine ⟨.inr rfl, ?_, .inr hmu, hob⟩
      rw [hmu]; show _ < w'.heap.size; rw [hw.1]; simp
    · simp only [e, if_false] at hj
      obtain ⟨h1, h2, h3, h4⟩ := h.live j o hj
      have hmu : (S.push w' i).mu j = S.mu j := by simp [Ctx.push, e]
      refine ⟨.inl h1, ?_, ?_, OBRel.mono k h1 (zaA hw.1 h2) h4⟩
      · rw [hmu]; exact Nat.lt_of_lt_of_le h2 k.size
      · rw [hmu]; exact .inl h3
  inj := fun j j' hj hj' he => by
    have mu : ∀ j, j ≠ i → (S.push w' i).mu j = S.mu j := fun j e => by simp [Ctx.push, e]
    have mui : (S.push w' i).mu i = S.w.heap.size := by simp [Ctx.push]
    have lt : ∀ j, j ≠ i → (if j = i then some ob else m j) ≠ none → S.mu j < S.w.heap.size := fun j e hj => by
      simp only [e, if_false] at hj
      obtain ⟨o, ho⟩ := Option.ne_none_iff_exists'.1 hj
      exact (h.live j o ho).2.1
    by_cases e : j = i
    · by_cases e' : j' = i
      · rw [e, e']
      · have := lt j' e' hj'
        rw [e, mui, mu j' e'] at he; omega
    · by_cases e' : j' = i
      · have := lt j e hj
        rw [e', mui, mu j e] at he; omega
      · rw [mu j e, mu j' e'] at he
        simp only [e, e', if_false] at hj hj'
        exact h.inj j j' hj hj' he
theorem zja (hm : SRelM m S) (t : TypeId) {i : Id} (hi : ¬ S.K i) : ∃ v S', (Instr.makeMap t none).run P S.w = .ok v S'.w ∧ Ev S S' ∧ SRelM (fun j => if j = i then some (.map []) else m j) S' ∧ VRel S' (.mp i) v ∧ ∀ j, S'.K j ↔ S.K j ∨ j = i := by
  have hw : zcD S.w (S.w.alloc (.map #[] 0)) (.map #[] 0) := ⟨rfl, rfl, rfl, rfl⟩
  have hmu : (S.push (S.w.alloc (.map #[] 0)) i).mu i = S.w.heap.size := by simp [Ctx.push]
  refine ⟨.map (some S.w.heap.size), S.push (S.w.alloc (.map #[] 0)) i, rfl, Ev.push hw hi, hm.pushM hw hi ?_, ?_, fun j => Iff.rfl⟩
  · refine ⟨#[], 0, [], ?_, List.Perm.refl _, rfl, rfl, by simp, by simp⟩
    rw [hmu]; exact za1 hw.1
  · simp only [VRel]
    exact ⟨by rw [hmu], .inr rfl⟩
end
end Go.Proofs.YtckabcbfbpejkaaGreatDoor.Av
namespace Go.Proofs.YtckabcbfbpejkaaGreatDoor.Av
open Go
set_option linter.unusedSimpArgs false
set_option linter.unusedVariables false
section
variable {P : Program} {m : zL} {S : Ctx}
theorem zfK {t e : TypeId} (h : zaa P t = some e) : P.underlying t = some (.slice e) := by
  unfold zaa at h
  split at h
  · rename_i hu; simp only [Option.some.injEq] at h; subst h; exact hu
  · simp at h
theorem zkF (hm : SRelM m S) {t ty : TypeId} {x : AV} {vx : Value} {r : Res} (h : zdK P m t x = some r) (hx : VRel S x vx) :
    (r = .val (.tup []) ∧ (Builtin.clear_ #[t] ty #[vx]).run P S.w = .ok (.tuple #[]) S.w) ∨
    ∃ i es es', r = .wrv i es' (.tup []) ∧ m i = some (.buf es) ∧ ∃ S', (Builtin.clear_ #[t] ty #[vx]).run P S.w = .ok (.tuple #[]) S'.w ∧ Ev S S' ∧ SRelM (fun j => if j = i then some (.buf es') else m j) S' ∧ S'.K = S.K := by
  unfold zdK at h
  split at h
  · rename_i e he
    have hu := zfK he
    split at h
    · rename_i n z hn hz
      split at h
      · rename_i sz fl
        simp only [Option.some.injEq] at h
        subst h
        left
        simp only [VRel] at hx
        obtain ⟨base, cap, rfl, _⟩ := hx
        refine ⟨rfl, ?_⟩
        cases base <;> simp [Builtin.clear_, run_underlying hu]
      · rename_i i off len
        split at h
        · rename_i es hi
          split at h
          · rename_i hc
            obtain ⟨c1, c2, c3, c4⟩ := hc
            simp only [Option.some.injEq] at h
            subst h
            right
            simp only [VRel] at hx
            obtain ⟨cap, rfl, _⟩ := hx
            have hz' := ziG (S := S) (z := z) (n := n) c2 (len + 1)
            have hcr := zba S z
            have hzs : z.cells.size = n := by rw [← c2, hcr.length]; simp
            have hok : zN (zs (List.replicate (len + 1) (zC z))) = true := by
              simp only [zN, zs, List.all_eq_true, List.mem_flatMap, List.mem_replicate] at c3 ⊢
              rintro y ⟨q, ⟨_, rfl⟩, hy⟩
              exact c3 y hy
            obtain ⟨S', h1, h2, h3, h4⟩ := zfJ (P := P) hm hi (ys := List.replicate (len + 1) (zC z)) (off := off) (by simpa using c4) (fun q hq => by rw [List.eq_of_mem_replicate hq, c1]; exact c2) hok hz'
            rw [List.length_replicate] at h3
            refine ⟨i, es, _, rfl, hi, S', ?_, h2, h3, h4⟩
            have hsize : (Array.range ((len + 1) * n)).map (z.cells[· % z.cells.size]!) = Builtin.zeroCells z.cells (len + 1) := by
              unfold Builtin.zeroCells; rw [hzs]
            rw [hsize] at h1
            simp [Builtin.clear_, run_underlying hu, zbn hz, h1]
          · simp at h
        · simp at h
      · simp at h
    · simp at h
  · simp at h
theorem zkG (hm : SRelM m S) {x : AV} {v : Value} {ys : List AV} {n : Nat} (h : zbT m x = some ys) (hn : ys = [] ∨ zer x = n) (hx : VRel S x v) :
    ∃ base cap l, v = .slice base ys.length cap ∧ LRel S (zs ys) l ∧ l.length = ys.length * n ∧ (∀ e ∈ ys, e.cells.length = n) ∧
      ∀ (k : Nat) (w : World), k ≤ ys.length → (∀ a, w.cell? a = S.w.cell? a) → (Builtin.firstCells n k v).run P w = .ok (l.take (k * n)).toArray w := by
  have fin : ∀ (base : Option Addr) (cap : Nat) (b o : Nat), (ys ≠ [] → base = some ⟨b, o, none⟩) → ERel S n ys b o → v = .slice base ys.length cap →
      ∃ base cap l, v = .slice base ys.length cap ∧ LRel S (zs ys) l ∧ l.length = ys.length * n ∧ (∀ e ∈ ys, e.cells.length = n) ∧
      ∀ (k : Nat) (w : World), k ≤ ys.length → (∀ a, w.cell? a = S.w.cell? a) → (Builtin.firstCells n k v).run P w = .ok (l.take (k * n)).toArray w := by
    intro base cap b o hb hE hv
    obtain ⟨h1, h2⟩ := hE.toRow
    obtain ⟨l, hl, hc⟩ := h2.cells
    have hlen : l.length = ys.length * n := by rw [← hl.length, h1]
    refine ⟨base, cap, l, hv, hl, hlen, hE.sizes, fun k w hk hw => ?_⟩
    by_cases h0 : ys = []
    · subst h0
      have : l = [] := List.eq_nil_of_length_eq_zero (by simpa using hlen)
      subst this
      have : k = 0 := by simpa using hk
      subst this
      subst hv
      cases base <;> simp [Builtin.firstCells, loadCells, loadCellsFrom]
    · rw [hv, hb h0]
      simp only [Builtin.firstCells]
      have hkl : k * n ≤ l.length := by rw [hlen]; exact Nat.mul_le_mul_right _ hk
      have hl2 : (l.take (k * n)).length = k * n := by rw [List.length_take]; omega
      conv => lhs; rw [← hl2]
      exact run_loadCells_list w _ (l.take (k * n)) (fun j u hj => by
        rw [zaQ, hw]
        rw [List.getElem?_take] at hj
        split at hj
        · exact hc j u hj
        · cases hj)
  cases x <;> simp only [zbT, reduceCtorEq] at h
  · split at h
    · rename_i e; cases e
    · rename_i b c hv
      injection hv with hv
      simp only [VRel] at hx
      simp only [Option.some.injEq] at h
      subst h
      exact fin b c 0 0 (fun h => absurd rfl h) (ERel.none_nil rfl _ _) (hx.trans hv)
    · rename_i e; cases e
    · cases h
  · rename_i sz es full
    simp only [Option.some.injEq] at h
    subst h
    simp only [VRel] at hx
    obtain ⟨base, cap, rfl, _, _, h3⟩ := hx
    by_cases h0 : es = []
    · exact fin base cap 0 0 (fun h => absurd h0 h) (ERel.none_nil h0 _ _) rfl
    · obtain ⟨b, o, rfl, _, hE⟩ := h3 h0
      have := hn.resolve_left h0
      simp only [zer] at this
      subst this
      exact fin _ cap b o (fun _ => rfl) hE rfl
  · rename_i i off len
    cases hi : m i with
    | none => simp [hi] at h
    | some o =>
      cases o with
      | map _ => simp [hi] at h
      | loop _ _ _ _ _ _ _ _ => simp [hi] at h
      | bufx _ => simp [hi] at h
      | buf es =>
        simp only [hi] at h
        split at h
        · rename_i hle
          simp only [Option.some.injEq] at h
          subst h
          simp only [VRel] at hx
          obtain ⟨cap, rfl, _⟩ := hx
          obtain ⟨_, _, _, c, t, _, _, hE⟩ := hm.live i _ hi
          have hE' := (hE.drop off).take len
          have hlen : ((es.drop off).take len).length = len := by simp; omega
          by_cases h0 : (es.drop off).take len = []
          · refine fin _ cap 0 0 (fun h => absurd h0 h) (ERel.none_nil h0 _ _) (by rw [hlen])
          · have := hn.resolve_left h0
            simp only [zer] at this
            subst this
            exact fin (some ⟨S.mu i, off * i.sz, none⟩) cap (S.mu i) (0 + off * i.sz) (fun _ => by simp) hE' (by rw [hlen])
        · simp at h
theorem zlz (hm : SRelM m S) {t u ty : TypeId} {d x : AV} {vd vx : Value} {r : Res} (h : zhj P m t d x = some r) (hd : VRel S d vd) (hx : VRel S x vx) :
    ∃ i es es' n, r = .wrv i es' (.raw (.int .i64 n)) ∧ m i = some (.buf es) ∧ ∃ S', (Builtin.copy_ #[t, u] ty #[vd, vx]).run P S.w = .ok (.int .i64 n) S'.w ∧ Ev S S' ∧ SRelM (fun j => if j = i then some (.buf es') else m j) S' ∧ S'.K = S.K := by
  unfold zhj at h
  split at h
  · rename_i e he
    have hu := zfK he
    split at h
    · rename_i n ys hn hys
      split at h
      · rename_i c1
        split at h
        · rename_i i off len
          split at h
          · rename_i es hi
            split at h
            · rename_i hc
              obtain ⟨hok, d1, d2⟩ := hc
              simp only [Option.some.injEq] at h
              subst h
              simp only [VRel] at hd
              obtain ⟨cap, rfl, _⟩ := hd
              obtain ⟨base, cap2, l, rfl, hl, hlen, hsz, hrd⟩ := zkG (P := P) hm hys c1 hx
              have hk : min ys.length len ≤ ys.length := by omega
              have hrd := hrd (min ys.length len) S.w hk fun _ => rfl
              have htl : (ys.take len).length = min ys.length len := by rw [List.length_take]; omega
              have hlt : LRel S (zs (ys.take len)) (l.take (min ys.length len * n)) := by
                have e1 : ys.take len = ys.take (min ys.length len) := by
                  rw [List.take_eq_take_iff]; omega
                rw [e1, zev hsz]; exact hl.take _
              obtain ⟨S', h1, h2, h3, h4⟩ := zfJ (P := P) hm hi (ys := ys.take len) (off := off) (by omega) (fun q hq => by rw [hsz q (List.mem_of_mem_take hq), d1]) hok hlt
              rw [htl] at h3
              refine ⟨i, es, _, _, rfl, hi, S', ?_, h2, h3, h4⟩
              have hmin : Nat.min ys.length len = min ys.length len := rfl
              simp [Builtin.copy_, run_underlying hu, Builtin.lenOf, zU hn, hmin, hrd, h1, goInt]
            · simp at h
          · simp at h
        · simp at h
      · simp at h
    · simp at h
  · simp at h
theorem zed {t : TypeId} {ms : Array (String × TypeId)} (hu : P.underlying t = some (.interface ms)) (d : Nat) (w : World) : (Op.equalIn (d + 1) t .nilIface .nilIface).run P w = .ok true w := by
  unfold Op.equalIn
  simp only [Sem.run_bind, run_underlying hu, Result.andThen_ok]
  rfl
theorem zkH {op : BinOp} {t : TypeId} {x : Operand} (w : World) : (eqGuard op t x (.const .nilIface) .nilIface .nilIface).run P w = .ok () w := by
  unfold eqGuard
  cases op <;> simp
theorem zkI {op : BinOp} {t : TypeId} {x r : AV} {vx : Value} {ox : Operand} (h : zeE P op t x = some r) (hx : VRel S x vx) :
    ∃ u, (do eqGuard op t ox (.const .nilIface) vx .nilIface; binOp op t vx .nilIface : Sem Value).run P S.w = .ok u S.w ∧ VRel S r u := by
  unfold zeE at h
  split at h
  · rename_i hu
    obtain ⟨ms, hu⟩ := zeu hu
    split at h
    · simp only [Option.map_eq_some_iff] at h
      obtain ⟨v, hv, rfl⟩ := h
      simp only [VRel] at hx
      obtain ⟨b, rfl, _⟩ := hx
      refine ⟨v, ?_, by simp [VRel]⟩
      rw [Sem.run_bind, ze0 (fun _ => by simp) (by simp), Result.andThen_ok]
      rcases zcb hv with ⟨rfl, rfl⟩ | ⟨rfl, rfl⟩
      · exact zbe (by rw [zaL]; exact zbx hu _ _ _ _) rfl
      · exact zbf (by rw [zaL]; exact zbx hu _ _ _ _) rfl
    · simp only [Option.map_eq_some_iff] at h
      obtain ⟨v, hv, rfl⟩ := h
      simp only [VRel] at hx
      subst hx
      refine ⟨v, ?_, by simp [VRel]⟩
      rw [Sem.run_bind, zkH, Result.andThen_ok]
      rcases zcb hv with ⟨rfl, rfl⟩ | ⟨rfl, rfl⟩
      · exact zbe (by rw [zaL]; exact zed hu _ _) rfl
      · exact zbf (by rw [zaL]; exact zed hu _ _) rfl
    · simp at h
  · simp at h
theorem zkJ {op : BinOp} {t : TypeId} {x r : AV} {vx : Value} {ox oy : Operand} (h : zeD P op t x = some r) (hx : VRel S x vx) :
    ∃ u, (do eqGuard op t ox oy vx (.slice none 0 0); binOp op t vx (.slice none 0 0) : Sem Value).run P S.w = .ok u S.w ∧ VRel S r u := by
  unfold zeD at h
  split at h
  · rename_i he
    obtain ⟨e, he⟩ := Option.isSome_iff_exists.1 he
    have hu := zfK he
    have main : ∀ (b : Option Addr) (l c : Nat) (v : Value), zbc op b.isNone = some v → vx = .slice b l c → ∃ u, (do eqGuard op t ox oy vx (.slice none 0 0); binOp op t vx (.slice none 0 0) : Sem Value).run P S.w = .ok u S.w ∧ VRel S (.raw v) u := by
      intro b l c v hv e
      subst e
      have heq : (Op.equal t (.slice b l c) (.slice none 0 0)).run P S.w = .ok b.isNone S.w := by
        rw [zaL]
        unfold Op.equalIn
        cases b <;> simp [run_underlying hu]
      refine ⟨v, ?_, by simp [VRel]⟩
      rw [Sem.run_bind, ze0 (a := .slice b l c) (fun _ => by simp) (by simp), Result.andThen_ok]
      rcases zcb hv with ⟨rfl, rfl⟩ | ⟨rfl, rfl⟩
      · exact zbe heq rfl
      · exact zbf heq rfl
    split at h
    · rename_i sz a es fl
      simp only [Option.map_eq_some_iff] at h
      obtain ⟨v, hv, rfl⟩ := h
      simp only [VRel] at hx
      obtain ⟨base, cap, rfl, _, _, h3⟩ := hx
      obtain ⟨b, o, rfl, _⟩ := h3 (by simp)
      exact main (some ⟨b, o, none⟩) _ _ v hv rfl
    · rename_i i off len
      simp only [Option.map_eq_some_iff] at h
      obtain ⟨v, hv, rfl⟩ := h
      simp only [VRel] at hx
      obtain ⟨cap, rfl, _⟩ := hx
      exact main (some ⟨S.mu i, off * i.sz, none⟩) _ _ v hv rfl
    · rename_i b c
      simp only [Option.map_eq_some_iff] at h
      obtain ⟨v, hv, rfl⟩ := h
      simp only [VRel] at hx
      exact main _ _ _ v hv hx
    · simp at h
  · simp at h
end
end Go.Proofs.YtckabcbfbpejkaaGreatDoor.Av
namespace Go.Proofs.YtckabcbfbpejkaaGreatDoor.Av
open Go
set_option linter.unusedSimpArgs false
set_option linter.unusedVariables false
def zd1 (m : zL) (i : Id) (o : Ob) : zL := fun j => if j = i then some o else m j
def zq3 (m : zL) (i : Id) : zL := fun j => if j = i then none else m j
def zjK (P : Program) (s : Sem Next) (S : Ctx) (m : zL) (i : Id) (es : List AV) (r : AV) : Prop :=
  ∃ v S', s.run P S.w = .ok (.value v) S'.w ∧ Ev S S' ∧ SRelM (zd1 m i (.buf es)) S' ∧ VRel S' r v ∧ ∀ j, S'.K j ↔ S.K j ∨ j = i
def zoz (P : Program) (s : Sem Next) (S : Ctx) (m : zL) (i : Id) (r : AV) : Prop :=
  ∃ v S', s.run P S.w = .ok (.value v) S'.w ∧ Ev S S' ∧ SRelM (zd1 m i (.map [])) S' ∧ VRel S' r v ∧ ∀ j, S'.K j ↔ S.K j ∨ j = i
def zhw (P : Program) (s : Sem Next) (S : Ctx) (m : zL) : Res → Prop
  | .val a => ∃ u, s.run P S.w = .ok (.value u) S.w ∧ VRel S a u
  | .mk sz es f => ∀ i : Id, i.sz = sz → ¬ S.K i → zjK P s S m i es (f i)
  | .wr i es => m i ≠ none ∧ ∃ S', s.run P S.w = .ok .skip S'.w ∧ Ev S S' ∧ SRelM (zd1 m i (.buf es)) S' ∧ S'.K = S.K
  | .mv old es f => m old ≠ none ∧ ∀ i : Id, i.sz = old.sz → ¬ S.K i → zjK P s S (zq3 m old) i es (f i)
  | .mkm f => ∀ i : Id, i.sz = 0 → ¬ S.K i → zoz P s S m i (f i)
  | .wrv i es v => m i ≠ none ∧ ∃ u S', s.run P S.w = .ok (.value u) S'.w ∧ Ev S S' ∧ SRelM (zd1 m i (.buf es)) S' ∧ S'.K = S.K ∧ VRel S' v u
  | .mko sz o f => ∀ i : Id, i.sz = sz → ¬ S.K i → ∃ v S', s.run P S.w = .ok (.value v) S'.w ∧ Ev S S' ∧ SRelM (zd1 m i o) S' ∧ VRel S' (f i) v ∧ ∀ j, S'.K j ↔ S.K j ∨ j = i
  | .wro i o v => m i ≠ none ∧ ∃ u S', s.run P S.w = .ok (.value u) S'.w ∧ Ev S S' ∧ SRelM (zd1 m i o) S' ∧ S'.K = S.K ∧ VRel S' v u
  | .wrm i ents => m i ≠ none ∧ ∃ S', s.run P S.w = .ok .skip S'.w ∧ Ev S S' ∧ SRelM (zd1 m i (.map ents)) S' ∧ S'.K = S.K
section
variable {P : Program} {m : zL} {S : Ctx}
theorem ziH {s : Sem Value} {r : AV} (h : ∃ u, s.run P S.w = .ok u S.w ∧ VRel S r u) : zhw P (do pure (.value (← s))) S m (.val r) := by
  obtain ⟨u, h1, h2⟩ := h
  exact ⟨u, by simp [h1], h2⟩
theorem zcw {s : Sem Value} {i : Id} {es : List AV} {r : AV} (h : Makes P s S m i es r) : zjK P (do pure (.value (← s))) S m i es r := by
  obtain ⟨v, S', h1, h2, h3, h4, h5⟩ := h
  exact ⟨v, S', by simp [h1], h2, h3, h4, h5⟩
theorem zae {s : Sem Value} {x : Option AV} {r : Res} (h : x.map Res.val = some r) (k : ∀ a, x = some a → ∃ u, s.run P S.w = .ok u S.w ∧ VRel S a u) : zhw P (do pure (.value (← s))) S m r := by
  simp only [Option.map_eq_some_iff] at h
  obtain ⟨a, ha, rfl⟩ := h
  exact ziH (k a ha)
theorem zaU {s s' : Sem Next} {r : Res} (e : s.run P S.w = s'.run P S.w) (h : zhw P s' S m r) : zhw P s S m r := by
  cases r with
  | val a => obtain ⟨u, h1, h2⟩ := h; exact ⟨u, e.trans h1, h2⟩
  | mk sz es f => exact fun i h1 h2 => by obtain ⟨v, S', h3, h4⟩ := h i h1 h2; exact ⟨v, S', e.trans h3, h4⟩
  | wr i es => obtain ⟨h0, S', h3, h4⟩ := h; exact ⟨h0, S', e.trans h3, h4⟩
  | mv old es f => exact ⟨h.1, fun i h1 h2 => by obtain ⟨v, S', h3, h4⟩ := h.2 i h1 h2; exact ⟨v, S', e.trans h3, h4⟩⟩
  | mkm f => exact fun i h1 h2 => by obtain ⟨v, S', h3, h4⟩ := h i h1 h2; exact ⟨v, S', e.trans h3, h4⟩
  | wrm i es => obtain ⟨h0, S', h3, h4⟩ := h; exact ⟨h0, S', e.trans h3, h4⟩
  | wrv i es v => obtain ⟨h0, u, S', h3, h4⟩ := h; exact ⟨h0, u, S', e.trans h3, h4⟩
  | mko sz o f => exact fun i h1 h2 => by obtain ⟨v, S', h3, h4⟩ := h i h1 h2; exact ⟨v, S', e.trans h3, h4⟩
  | wro i o v => obtain ⟨h0, u, S', h3, h4⟩ := h; exact ⟨h0, u, S', e.trans h3, h4⟩
theorem ziI {ρA : Operand → AV} {ρ : Operand → Value} (hρ : ∀ x, VRel S (ρA x) (ρ x)) (parts : Array (Nat × Operand)) :
    (parts.map fun (i, x) => (i, ρ x)).toList.map (·.1) = (parts.toList.map fun p => (p.1, ρA p.2)).map (·.1) ∧
    ∀ (j : Nat) (a : AV) (v : Value), ((parts.toList.map fun p => (p.1, ρA p.2))[j]?).map (·.2) = some a → ((parts.map fun (i, x) => (i, ρ x)).toList[j]?).map (·.2) = some v → VRel S a v := by
  refine ⟨by simp, fun j a v h1 h2 => ?_⟩
  simp only [List.getElem?_map, Option.map_map, Option.map_eq_some_iff] at h1
  obtain ⟨p, hp, rfl⟩ := h1
  simp only [Array.toList_map, List.getElem?_map, hp, Option.map_some, Option.some.injEq] at h2
  subst h2
  exact hρ _
theorem zd2 {ρA : Operand → AV} {ρ : Operand → Value} (hρ : ∀ x, VRel S (ρA x) (ρ x)) : ∀ l : List Operand, LRel S (l.map ρA) (l.map ρ)
  | [] => by simp [LRel]
  | x :: l => by simp only [List.map_cons, LRel]; exact ⟨_, _, rfl, hρ x, zd2 hρ l⟩
theorem ze3 {ρA : Operand → AV} {ρ : Operand → Value} (hρ : ∀ x, VRel S (ρA x) (ρ x)) (o : Option Operand) : za7 S (o.map ρA) (o.map ρ) := by
  cases o <;> simp [za7, hρ]
theorem zfL {x : Operand} {ρ : Operand → Value} {a : Addr} (h : ρ x = .pointer (some a)) (o : Oper) (ho : o.op = .nilCheck x) (w : World) : (execOp ρ o).run P w = .ok (.value (.pointer (some a))) w := by
  simp [execOp, ho, h]
theorem znY (hm : SRelM m S) {ρA : Operand → AV} {ρ : Operand → Value} (hρ : ∀ x, VRel S (ρA x) (ρ x)) (hc : ∀ v, ρ (.const v) = v) {o : Oper} {r : Res} (h : aop P m ρA o.op = some r) : zhw P (execOp ρ o) S m r := by
  cases ho : o.op <;> simp only [ho, aop, reduceCtorEq] at h <;> simp only [execOp, ho]
  case move x => simp only [Option.some.injEq] at h; subst h; exact ⟨_, rfl, hρ _⟩
  case assign x => simp only [Option.some.injEq] at h; subst h; exact ⟨_, rfl, hρ _⟩
  case pick c a b =>
    split at h
    · rename_i t hc
      simp only [Option.some.injEq] at h
      subst h
      have := hρ c
      rw [hc] at this
      simp only [VRel] at this
      refine ⟨if t = true then ρ a else ρ b, by simp [this, asBool], ?_⟩
      split <;> exact hρ _
    · simp at h
  case alloc t =>
    obtain ⟨sz, es, f, rfl, hk⟩ := zkD (P := P) hm h
    exact fun i h1 h2 => zcw (hk i h1 h2)
  case box t x =>
    obtain ⟨sz, es, f, rfl, hk⟩ := zmk (P := P) (t := t) hm h (hρ x)
    exact fun i h1 h2 => zcw (hk i h1 h2)
  case build t parts =>
    obtain ⟨h1, h2⟩ := ziI hρ parts
    exact zae h fun a ha => zjH ha h1 h2
  case buildSlice t len parts =>
    obtain ⟨h1, h2⟩ := ziI hρ parts
    obtain ⟨sz, es, f, rfl, hk⟩ := zgU (P := P) hm h h1 h2
    exact fun i h1 h2 => zcw (hk i h1 h2)
  case load t a => exact zae h fun r hr => zhk hm hr (hρ a)
  case store t a v =>
    obtain ⟨i, es, es0, rfl, hi, S', h1, h2, h3, h4⟩ := zkE (P := P) hm h (hρ a) (hρ v)
    exact ⟨by rw [hi]; simp, S', by simp [h1], h2, h3, h4⟩
  case nilCheck x =>
    have hx := hρ x
    split at h <;> simp only [Option.some.injEq, reduceCtorEq] at h <;> subst h
    · rename_i row off hr
      rw [hr] at hx
      have hx' := hx
      simp only [VRel] at hx
      obtain ⟨b, o', e, _⟩ := hx
      have := zfL (P := P) e o ho S.w
      simp only [execOp, ho] at this
      exact ⟨_, this, by rw [← e]; exact hx'⟩
    · rename_i i k off hr
      rw [hr] at hx
      have hx' := hx
      simp only [VRel] at hx
      obtain ⟨e, _⟩ := hx
      have := zfL (P := P) e o ho S.w
      simp only [execOp, ho] at this
      exact ⟨_, this, by rw [← e]; exact hx'⟩
  case binOp op t x y u =>
    refine zae h fun r hr => ?_
    cases hy : zbo y with
    | none => rw [hy] at hr; exact zmg hr (hρ x) (hρ y)
    | some c =>
      rw [hy] at hr
      unfold zbo at hy
      split at hy
      · cases hy
        rw [hc]
        exact zkJ hr (hρ x)
      · cases hy
        rw [hc]
        exact zkI hr (hρ x)
      · cases hy
  case unOp op t x => exact zae h fun r hr => zm5 hr (hρ x)
  case convert s d x => exact zae h fun r hr => zi7 hr (hρ x)
  case makeFunc f first caps =>
    simp only [Option.some.injEq] at h; subst h
    refine ⟨.func f (first.map ρ) (caps.map ρ), by simp [Instr.makeFunc], ?_⟩
    simp only [VRel]
    exact ⟨_, _, rfl, by simpa using zd2 hρ first.toList, by simpa using zd2 hρ caps.toList⟩
  case slice t x lo hi mx =>
    cases mx with
    | some c => exact zae h fun r hr => zjy hr (hρ x) (ze3 hρ lo) (ze3 hρ hi) (hρ c)
    | none => exact zae h fun r hr => zjF hr (hρ x) (ze3 hρ lo) (ze3 hρ hi)
  case fieldAddr t x f => exact zae h fun r hr => zhl hr (hρ x)
  case field t x f => exact zae h fun r hr => zkz hr (hρ x)
  case indexAddr t x ix => exact zae h fun r hr => zjB hr (hρ x) (hρ ix)
  case index t x ix =>
    refine zae h fun r hr => ?_
    unfold zeX at hr
    split at hr
    · rename_i len e ha
      exact zjG ha hr (hρ x) (hρ ix)
    unfold zid at hr
    split at hr
    · rename_i s k i hx hi
      have h1 := hρ x
      have h2 := hρ ix
      rw [hx] at h1
      rw [hi] at h2
      simp only [VRel] at h1 h2
      split at hr
      · rename_i hc
        obtain ⟨hu, h0⟩ := hc
        unfold zdT at hu
        split at hu
        · rename_i hty
          simp only [Option.map_eq_some_iff] at hr
          obtain ⟨b, hb, rfl⟩ := hr
          refine ⟨.int .u8 b.toNat, ?_, by simp only [VRel]⟩
          simp [Instr.index, h1, h2, asIntOf, run_underlying hty, h0, hb]
        · cases hu
      · cases hr
    · cases hr
  case makeMap t rsv =>
    cases rsv with
    | some _ => simp at h
    | none =>
      simp only [Option.some.injEq] at h
      subst h
      intro i _ hi
      obtain ⟨v, S', h1, h2, h3, h4, h5⟩ := zja (P := P) hm t hi
      exact ⟨v, S', by simp [h1], h2, h3, h4, h5⟩
  case lookup t x k ok => exact zae h fun r hr => zjJ hm hr (hρ x) (hρ k)
  case mapUpdate t x k v =>
    obtain ⟨i, ents0, ents, rfl, hi, S', h1, h2, h3, h4⟩ := zhv (P := P) hm h (hρ x) (hρ k) (hρ v)
    exact ⟨by rw [hi]; simp, S', by simp [h1], h2, h3, h4⟩
  case extract t ix =>
    split at h
    · rename_i vs hv
      have hx := hρ t
      rw [hv] at hx
      simp only [VRel] at hx
      obtain ⟨l, e, hl⟩ := hx
      refine zae h fun a ha => ?_
      obtain ⟨u, hu, hr⟩ := hl.get ha
      rw [Array.getElem?_toList] at hu
      exact ⟨u, by simp [Instr.extract, e, hu], hr⟩
    · simp at h
  case call c =>
    obtain ⟨callee, args, ts⟩ := c
    cases callee <;> simp only [reduceCtorEq] at h
    rename_i b
    have hres : ∀ w, (resolve ρ { callee := .builtin b, args := args, argTypes := ts } o.type).run P w = .ok { target := .builtin b ts o.type (args.map fun | .const _ => true | _ => false), args := args.map ρ } w := fun w => rfl
    split at h
    · rename_i x hx
      have ha : args = #[x] := by rw [← Array.toArray_toList (xs := args), hx]
      subst ha
      split at h
      · rename_i t ht
        have ht' : ts = #[t] := by rw [← Array.toArray_toList (xs := ts), ht]
        subst ht'
        refine zaU (s' := do pure (.value (← Builtin.len_ #[t] o.type #[ρ x]))) (by simp [resolve, invoke, builtin]) (zae (s := Builtin.len_ #[t] o.type #[ρ x]) h fun r hr => zmh hm hr (hρ x))
      · simp at h
    · rename_i x hx
      have ha : args = #[x] := by rw [← Array.toArray_toList (xs := args), hx]
      subst ha
      split at h
      · rename_i t ht
        have ht' : ts = #[t] := by rw [← Array.toArray_toList (xs := ts), ht]
        subst ht'
        refine zaU (s' := do pure (.value (← Builtin.cap_ #[t] o.type #[ρ x]))) (by simp [resolve, invoke, builtin]) (zae (s := Builtin.cap_ #[t] o.type #[ρ x]) h fun r hr => zml hr (hρ x))
      · simp at h
    · rename_i x hx
      have ha : args = #[x] := by rw [← Array.toArray_toList (xs := args), hx]
      subst ha
      split at h
      · rename_i t ht
        have ht' : ts = #[t] := by rw [← Array.toArray_toList (xs := ts), ht]
        subst ht'
        refine zaU (s' := do pure (.value (← Builtin.clear_ #[t] o.type #[ρ x]))) (by simp [resolve, invoke, builtin]) ?_
        rcases zkF (P := P) (ty := o.type) hm h (hρ x) with ⟨rfl, h1⟩ | ⟨i, es, es', rfl, hi, S', h1, h2, h3, h4⟩
        · exact ⟨.tuple #[], by simp [h1], by simp [VRel, LRel]⟩
        · exact ⟨by rw [hi]; simp, .tuple #[], S', by simp [h1], h2, h3, h4, by simp [VRel, LRel]⟩
      · simp at h
    · rename_i x y hx
      have ha : args = #[x, y] := by rw [← Array.toArray_toList (xs := args), hx]
      subst ha
      split at h
      · rename_i t u ht
        have ht' : ts = #[t, u] := by rw [← Array.toArray_toList (xs := ts), ht]
        subst ht'
        refine zaU (s' := do pure (.value (← Builtin.copy_ #[t, u] o.type #[ρ x, ρ y]))) (by simp [resolve, invoke, builtin]) ?_
        obtain ⟨i, es, es', n, rfl, hi, S', h1, h2, h3, h4⟩ := zlz (P := P) (u := u) (ty := o.type) hm h (hρ x) (hρ y)
        exact ⟨by rw [hi]; simp, .int .i64 n, S', by simp [h1], h2, h3, h4, by simp only [VRel]⟩
      · simp at h
    · rename_i x y hx
      have ha : args = #[x, y] := by rw [← Array.toArray_toList (xs := args), hx]
      subst ha
      refine zaU (s' := do pure (.value (← Builtin.max_ ts o.type #[ρ x, ρ y]))) (by simp [resolve, invoke, builtin]) (zae (s := Builtin.max_ ts o.type #[ρ x, ρ y]) h fun r hr => zmi hr (hρ x) (hρ y))
    · rename_i x y hx
      have ha : args = #[x, y] := by rw [← Array.toArray_toList (xs := args), hx]
      subst ha
      refine zaU (s' := do pure (.value (← Builtin.min_ ts o.type #[ρ x, ρ y]))) (by simp [resolve, invoke, builtin]) (zae (s := Builtin.min_ ts o.type #[ρ x, ρ y]) h fun r hr => zmj hr (hρ x) (hρ y))
    · rename_i x y z hx
      have ha : args = #[x, y, z] := by rw [← Array.toArray_toList (xs := args), hx]
      subst ha
      refine zaU (s' := do pure (.value (← Builtin.min_ ts o.type #[ρ x, ρ y, ρ z]))) (by simp [resolve, invoke, builtin]) (zae (s := Builtin.min_ ts o.type #[ρ x, ρ y, ρ z]) h fun r hr => zlw hr (hρ x) (hρ y) (hρ z))
    · rename_i x y hx
      have ha : args = #[x, y] := by rw [← Array.toArray_toList (xs := args), hx]
      subst ha
      split at h
      · rename_i t u ht
        have ht' : ts = #[t, u] := by rw [← Array.toArray_toList (xs := ts), ht]
        subst ht'
        split at h
        · rename_i htu
          subst htu
          refine zaU (s' := do pure (.value (← Builtin.append_ #[t, t] o.type #[ρ x, ρ y]))) (by simp [resolve, invoke, builtin]) ?_
          rcases zjI (P := P) (ty := o.type) hm h (hρ x) (hρ y) with ⟨a, u, rfl, h1, h2⟩ | ⟨sz, es, f, rfl, hk⟩ | ⟨old, es, es0, f, rfl, ho, hk⟩ | ⟨i, es, es0, av, rfl, hi, u, S', h1, h2, h3, h4, h5⟩
          · exact ziH (s := Builtin.append_ #[t, t] o.type #[ρ x, ρ y]) ⟨u, h1, h2⟩
          · exact fun i h1 h2 => zcw (s := Builtin.append_ #[t, t] o.type #[ρ x, ρ y]) (hk i h1 h2)
          · exact ⟨by rw [ho]; simp, fun i h1 h2 => zcw (s := Builtin.append_ #[t, t] o.type #[ρ x, ρ y]) (hk i h1 h2)⟩
          · exact ⟨by rw [hi]; simp, u, S', by simp [h1], h2, h3, h4, h5⟩
        · refine zaU (s' := do pure (.value (← Builtin.append_ #[t, u] o.type #[ρ x, ρ y]))) (by simp [resolve, invoke, builtin]) ?_
          obtain ⟨sz, es, f, rfl, hk⟩ := zlx (P := P) (ty := o.type) hm h (hρ x) (hρ y)
          exact fun i h1 h2 => zcw (s := Builtin.append_ #[t, u] o.type #[ρ x, ρ y]) (hk i h1 h2)
      · simp at h
    · simp at h
end
end Go.Proofs.YtckabcbfbpejkaaGreatDoor.Av
