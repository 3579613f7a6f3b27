/- Rules: the laws RuleTexts, RuleMatches. Part 4 of 22: AvRun2, AvRun3. -/
import Derived.Test.YtckabcbfbpejkaaGreatDoorRy2
import Derived.Laws.StructEq
namespace Go.Proofs.YtckabcbfbpejkaaGreatDoor.Av
open Go
set_option linter.unusedSimpArgs false
set_option linter.unusedVariables false
section
variable {P : Program} {m : zL} {S : Ctx}
def bnd (n : Nat) : Option AV → Option Nat
  | none => some n
  | some (.raw (.int _ i)) => if 0 ≤ i then some i.toNat else none
  | _ => none
def za7 (S : Ctx) : Option AV → Option Value → Prop
  | none, none => True
  | some a, some v => VRel S a v
  | _, _ => False
theorem zcq {lo : Option AV} {vlo : Option Value} (hlo : za7 S lo vlo) {n l : Nat} (e : bnd n lo = some l) : (vlo = none ∧ l = n) ∨ ∃ k i, vlo = some (.int k i) ∧ 0 ≤ i ∧ l = i.toNat := by
  cases lo with
  | none =>
    cases vlo with
    | none => simp [bnd] at e; exact .inl ⟨rfl, e.symm⟩
    | some v => simp [za7] at hlo
  | some a =>
    cases vlo with
    | none => simp [za7] at hlo
    | some v =>
      simp only [za7] at hlo
      unfold bnd at e
      split at e
      · rename_i heq; cases heq
      · rename_i k i heq
        cases heq
        simp only [VRel] at hlo
        subst hlo
        by_cases h0 : 0 ≤ i
        · simp only [h0, if_true, Option.some.injEq] at e
          exact .inr ⟨k, i, rfl, h0, e.symm⟩
        · simp [h0] at e
      · simp at e
theorem ziC {t e : TypeId} (hu : P.underlying t = some (.slice e)) {n : Nat} (hs : z6 P e = some n) {lo hi : Option AV} {vlo vhi : Option Value} (hlo : za7 S lo vlo) (hhi : za7 S hi vhi)
    {a : Option Addr} {len cap l h : Nat} (el : bnd 0 lo = some l) (eh : bnd len hi = some h) (hlh : l ≤ h) (hhc : h ≤ cap) :
    (Instr.sliceAt t (.slice a len cap) vlo vhi none).run P S.w = .ok (.slice (if cap = l then a else a.map (·.add (l * n))) (h - l) (cap - l)) S.w := by
  have hb : (Instr.sliceBounds true len cap vlo vhi none).run P S.w = .ok (l, h, cap) S.w := by
    unfold Instr.sliceBounds
    rcases zcq hlo el with ⟨rfl, rfl⟩ | ⟨k, i, rfl, hi0, rfl⟩ <;> rcases zcq hhi eh with ⟨rfl, rfl⟩ | ⟨k', i', rfl, hi0', rfl⟩
    · simp
    · have : i' ≤ (cap : Int) := by omega
      simp [Instr.sliceBound, asIntOf, hi0', this]
    · have : i ≤ (h : Int) := by omega
      simp [Instr.sliceBound, asIntOf, hi0, this]
    · have : i' ≤ (cap : Int) := by omega
      have h2 : i ≤ i' := by omega
      simp [Instr.sliceBound, asIntOf, hi0, hi0', this, h2, Int.toNat_of_nonneg hi0']
  simp [Instr.sliceAt, Instr.slice, run_underlying hu, hb, zU hs]
theorem zls (t : TypeId) (x : AV) (lo hi : Option AV) : zge P t x lo hi = match zaa P t with
  | some e => match z6 P e with
    | some n => match x with
      | .sl sz es full => match bnd 0 lo, bnd es.length hi with
        | some l, some h => if l ≤ h ∧ h ≤ es.length ∧ (es = [] ∨ sz = n) then some (zjj sz es full l h) else none
        | _, _ => none
      | .rs i off len => match bnd 0 lo, bnd len hi with
        | some l, some h => if l ≤ h ∧ h ≤ len ∧ i.sz = n then some (zec i off l h) else none
        | _, _ => none
      | _ => none
    | none => none
  | none => none := rfl
theorem zkA {t : TypeId} {x r : AV} {lo hi : Option AV} {v : Value} {vlo vhi : Option Value} (h : zge P t x lo hi = some r) (hx : VRel S x v) (hlo : za7 S lo vlo) (hhi : za7 S hi vhi) :
    ∃ u, (Instr.sliceAt t v vlo vhi none).run P S.w = .ok u S.w ∧ VRel S r u := by
  rw [zls] at h
  unfold zaa at h
  cases hu : P.underlying t with
  | none => simp [hu] at h
  | some d =>
    cases d <;> simp only [hu, reduceCtorEq] at h
    rename_i e
    cases hs : z6 P e with
    | none => simp [hs] at h
    | some n =>
      simp only [hs] at h
      cases x <;> simp only [reduceCtorEq] at h
      · rename_i sz es full
        cases el : bnd 0 lo with
        | none => simp [el] at h
        | some l =>
          cases eh : bnd es.length hi with
          | none => simp [el, eh] at h
          | some hh =>
            simp only [el, eh] at h
            by_cases hc : l ≤ hh ∧ hh ≤ es.length ∧ (es = [] ∨ sz = n)
            · rw [if_pos hc] at h
              simp only [Option.some.injEq] at h
              subst h
              obtain ⟨c1, c2, c3⟩ := hc
              simp only [VRel] at hx
              obtain ⟨base, cap, rfl, h1, h2, h3⟩ := hx
              refine ⟨_, ziC hu hs hlo hhi el eh c1 (Nat.le_trans c2 h1), ?_⟩
              simp only [zjj, VRel]
              refine ⟨_, _, by simp [Nat.min_eq_left c2]; exact ⟨rfl, rfl⟩, by simp [Nat.min_eq_left c2]; omega, ?_, ?_⟩
              · intro hf
                simp only [Bool.and_eq_true, beq_iff_eq] at hf
                have := h2 hf.1
                simp [Nat.min_eq_left c2]; omega
              · intro hne
                have hlen : l < hh := by
                  rcases Nat.lt_or_ge l hh with x | x
                  · exact x
                  · exact absurd (List.drop_eq_nil_of_le (by simp; omega)) hne
                have hne' : es ≠ [] := by intro e; subst e; simp at c2; omega
                obtain ⟨b, o, rfl, hb, hE⟩ := h3 hne'
                have hsz := c3.resolve_left hne'
                subst hsz
                refine ⟨b, o + l * sz, ?_, hb, ?_⟩
                · rw [if_neg (by omega)]; simp [zaQ]
                · exact ERel.drop l (hE.take hh)
            · rw [if_neg hc] at h; simp at h
      · rename_i i off len
        cases el : bnd 0 lo with
        | none => simp [el] at h
        | some l =>
          cases eh : bnd len hi with
          | none => simp [el, eh] at h
          | some hh =>
            simp only [el, eh] at h
            by_cases hc : l ≤ hh ∧ hh ≤ len ∧ i.sz = n
            · rw [if_pos hc] at h
              simp only [Option.some.injEq] at h
              subst h
              obtain ⟨c1, c2, c3⟩ := hc
              simp only [VRel] at hx
              obtain ⟨cap, rfl, h1, h2, h3, h4⟩ := hx
              refine ⟨_, ziC hu hs hlo hhi el eh c1 (Nat.le_trans c2 h1), ?_⟩
              unfold zec
              by_cases hl : l = 0 ∨ l < hh
              · rw [if_pos hl]
                simp only [VRel]
                refine ⟨cap - l, ?_, by omega, ?_, h3, h4⟩
                · subst c3
                  have : (if cap = l then some ({ block := S.mu i, off := off * i.sz } : Addr) else Option.map (fun x : Addr => x.add (l * i.sz)) (some { block := S.mu i, off := off * i.sz })) = some { block := S.mu i, off := (off + l) * i.sz } := by
                    rcases hl with rfl | hl
                    · split <;> simp [zaQ]
                    · rw [if_neg (by omega)]; simp [zaQ, Nat.add_mul]
                  rw [this]
                · rw [← h2]; congr 1; omega
              · rw [if_neg hl]
                simp only [VRel]
                exact ⟨_, _, by simp; exact ⟨rfl, by omega, rfl⟩, by simp, by simp, by simp⟩
            · rw [if_neg hc] at h; simp at h
theorem zhn {t e : TypeId} (hu : P.underlying t = some (.slice e)) {n : Nat} (hs : z6 P e = some n) {lo hi : Option AV} {mx : AV} {vlo vhi : Option Value} {vm : Value} (hlo : za7 S lo vlo) (hhi : za7 S hi vhi) (hm : VRel S mx vm)
    {a : Option Addr} {len cap l h c : Nat} (el : bnd 0 lo = some l) (eh : hi ≠ none ∧ bnd 0 hi = some h) (em : bnd 0 (some mx) = some c) (hlh : l ≤ h) (hhc : h ≤ c) (hcc : c ≤ cap) :
    (Instr.sliceAt t (.slice a len cap) vlo vhi (some vm)).run P S.w = .ok (.slice (if c = l then a else a.map (·.add (l * n))) (h - l) (c - l)) S.w := by
  have hm' : za7 S (some mx) (some vm) := hm
  obtain ⟨ne, eh⟩ := eh
  have hb : (Instr.sliceBounds true len cap vlo vhi (some vm)).run P S.w = .ok (l, h, c) S.w := by
    unfold Instr.sliceBounds
    obtain ⟨k3, i3, e3, h3, rfl⟩ : ∃ k i, vm = .int k i ∧ 0 ≤ i ∧ c = i.toNat := by
      rcases zcq hm' em with ⟨h, _⟩ | ⟨k, i, h, h2, h3⟩
      · cases h
      · exact ⟨k, i, by injection h, h2, h3⟩
    obtain ⟨k2, i2, e2, h2, rfl⟩ : ∃ k i, vhi = some (.int k i) ∧ 0 ≤ i ∧ h = i.toNat := by
      rcases zcq hhi eh with ⟨rfl, _⟩ | h
      · cases hi with
        | none => exact absurd rfl ne
        | some x => simp [za7] at hhi
      · exact h
    subst e3 e2
    have b3 : i3 ≤ (cap : Int) := by omega
    have b2 : i2 ≤ (i3.toNat : Int) := by omega
    rcases zcq hlo el with ⟨rfl, rfl⟩ | ⟨k1, i1, rfl, h1, rfl⟩
    · simp [Instr.sliceBound, asIntOf, h2, h3, b3, b2, Int.toNat_of_nonneg h3]
      try omega
    · have b1 : i1 ≤ i2 := by omega
      have b4 : i2 ≤ i3 := by omega
      simp [Instr.sliceBound, asIntOf, h1, h2, h3, b3, b4, b1, Int.toNat_of_nonneg h3, Int.toNat_of_nonneg h2]
      try omega
  simp [Instr.sliceAt, Instr.slice, run_underlying hu, hb, zU hs]
theorem zeZ {a : AV} {n : Nat} (h : zcE (some a) = some n) (k : Nat) : bnd k (some a) = some n := by
  unfold zcE at h
  split at h
  · rename_i heq; injection heq with heq; subst heq; exact h
  · cases h
theorem zkB (t : TypeId) (x : AV) (lo hi : Option AV) (mx : AV) : zdS P t x lo hi mx = match zaa P t with
  | some e => match z6 P e with
    | some n => match x with
      | .sl sz es full => match bnd 0 lo, zcE hi, zcE (some mx) with
        | some l, some h, some c => if l ≤ h ∧ h ≤ c ∧ c ≤ es.length ∧ (es = [] ∨ sz = n) then some (.sl sz ((es.take h).drop l) (h == c)) else none
        | _, _, _ => none
      | .rs i off len => match bnd 0 lo, zcE hi, zcE (some mx) with
        | some l, some h, some c => if l ≤ h ∧ h ≤ c ∧ c ≤ len then some .any else none
        | _, _, _ => none
      | _ => none
    | none => none
  | none => none := rfl
theorem zjy {t : TypeId} {x r : AV} {lo hi : Option AV} {mx : AV} {v : Value} {vlo vhi : Option Value} {vm : Value} (h : zdS P t x lo hi mx = some r) (hx : VRel S x v) (hlo : za7 S lo vlo) (hhi : za7 S hi vhi) (hm : VRel S mx vm) :
    ∃ u, (Instr.sliceAt t v vlo vhi (some vm)).run P S.w = .ok u S.w ∧ VRel S r u := by
  rw [zkB] at h
  unfold zaa at h
  cases hu : P.underlying t with
  | none => simp [hu] at h
  | some d =>
    cases d <;> simp only [hu, reduceCtorEq] at h
    rename_i e
    cases hs : z6 P e with
    | none => simp [hs] at h
    | some n =>
      simp only [hs] at h
      cases hi with
      | none => cases x <;> simp [zcE] at h
      | some hi =>
      cases el : bnd 0 lo with
      | none => cases x <;> simp [el] at h
      | some l =>
      cases eh : zcE (some hi) with
      | none => cases x <;> simp [el, eh] at h
      | some hh =>
      cases em : zcE (some mx) with
      | none => cases x <;> simp [el, eh, em] at h
      | some c =>
      cases x <;> simp only [el, eh, em, reduceCtorEq] at h
      · rename_i sz es full
        by_cases hc : l ≤ hh ∧ hh ≤ c ∧ c ≤ es.length ∧ (es = [] ∨ sz = n)
        · rw [if_pos hc] at h
          simp only [Option.some.injEq] at h
          subst h
          obtain ⟨c1, c2, c3, c4⟩ := hc
          simp only [VRel] at hx
          obtain ⟨base, cap, rfl, h1, h2, h3⟩ := hx
          refine ⟨_, zhn hu hs hlo hhi hm el ⟨by simp, zeZ eh 0⟩ (zeZ em 0) c1 c2 (Nat.le_trans c3 h1), ?_⟩
          simp only [VRel]
          have hmin : min hh es.length = hh := by omega
          refine ⟨_, _, by simp [hmin]; exact ⟨rfl, rfl⟩, by simp [hmin]; omega, ?_, ?_⟩
          · intro hf
            simp only [beq_iff_eq] at hf
            simp [hmin]; omega
          · intro hne
            have hlen : l < hh := by
              rcases Nat.lt_or_ge l hh with x | x
              · exact x
              · exact absurd (List.drop_eq_nil_of_le (by simp; omega)) hne
            have hne' : es ≠ [] := by intro e; subst e; simp at c3; omega
            obtain ⟨b, o, rfl, hb, hE⟩ := h3 hne'
            have hsz := c4.resolve_left hne'
            subst hsz
            have hcl : ¬ c = l := by omega
            refine ⟨b, o + l * sz, by simp [hcl, zaQ], hb, ?_⟩
            exact (hE.take hh).drop l
        · rw [if_neg hc] at h; cases h
      · rename_i i off len
        by_cases hc : l ≤ hh ∧ hh ≤ c ∧ c ≤ len
        · rw [if_pos hc] at h
          simp only [Option.some.injEq] at h
          subst h
          obtain ⟨c1, c2, c3⟩ := hc
          simp only [VRel] at hx
          obtain ⟨cap, rfl, h1, _⟩ := hx
          exact ⟨_, zhn hu hs hlo hhi hm el ⟨by simp, zeZ eh 0⟩ (zeZ em 0) c1 c2 (Nat.le_trans c3 h1), trivial⟩
        · rw [if_neg hc] at h; cases h
theorem zcb {op : BinOp} {b : Bool} {r : Value} (h : zbc op b = some r) : (op = .eql ∧ r = .bool b) ∨ (op = .neq ∧ r = .bool (!b)) := by
  unfold zbc at h
  split at h <;> simp_all
theorem zlt {op : BinOp} {k : IntKind} {a b : Int} {r : Value} (hn : zgf op = false) (h : zhd op k a b = some r) (t : TypeId) (w : World) : (binOp op t (.int k a) (.int k b)).run P w = .ok r w := by
  unfold zhd at h
  cases op <;> simp only [zgf, Bool.true_eq_false, Option.some.injEq, reduceCtorEq] at h hn
  case add | sub | mul | eql | neq | lss | leq | gtr | geq => subst h; simp [binOp, Op.intArith, Op.intCmp] <;> rfl
  case and | or | xor => subst h; simp [binOp, Op.intBits]
  case quo | rem =>
    split at h
    · simp at h
    · rename_i hb
      simp only [Option.some.injEq] at h
      subst h
      simp [binOp, Op.intDiv, hb]
theorem zjz {op : BinOp} {k k' : IntKind} {a b : Int} {r : Value} (h : zeU op k a b = some r) (t : TypeId) (w : World) : (binOp op t (.int k a) (.int k' b)).run P w = .ok r w := by
  unfold zeU at h
  cases op <;> simp only [reduceCtorEq] at h
  all_goals
    split at h
    · rename_i hb
      simp only [Option.some.injEq] at h
      subst h
      have : ¬ b < 0 := by omega
      simp [binOp, Op.shift, this]
    · simp at h
theorem zlu {op : BinOp} {a b : ByteArray} {r : Value} (h : zhe op a b = some r) (t : TypeId) (w : World) : (binOp op t (.string a) (.string b)).run P w = .ok r w := by
  unfold zhe at h
  cases op <;> simp only [Option.some.injEq, reduceCtorEq] at h
  case add =>
    split at h
    · rename_i hb
      simp only [Option.some.injEq] at h
      subst h
      have : ¬ (IntKind.i64.max < ((a.size + b.size : Nat) : Int)) := by omega
      simp only [binOp, Op.stringOp, gt_iff_lt, this, if_false]
      rfl
    · simp at h
  all_goals subst h; simp [binOp, Op.stringOp]
theorem ze0 {op : BinOp} {t : TypeId} {x y : Operand} {a b : Value} (h1 : ∀ l, a ≠ .agg l) (h2 : a ≠ .nilIface) (w : World) : (eqGuard op t x y a b).run P w = .ok () w := by
  unfold eqGuard
  cases op <;> simp
  all_goals
    cases a <;> simp_all
theorem zmf {t : TypeId} (h : zjq P t = true) : ∃ e, P.underlying t = some (.pointer e) := by
  unfold zjq at h
  split at h
  · exact ⟨_, by assumption⟩
  · simp at h
theorem zho {t : TypeId} (h : zeV P t = true) : P.underlying t = some .bool := by
  unfold zeV at h
  split at h
  · assumption
  · simp at h
theorem ziD {t : TypeId} (h : zdT P t = true) : P.underlying t = some .string := by
  unfold zdT at h
  split at h
  · assumption
  · simp at h
theorem ziE {t : TypeId} (h : (zcg P t).isSome = true) : ∃ k, P.underlying t = some (.int k) := by
  unfold zcg at h
  split at h
  · exact ⟨_, by assumption⟩
  · simp at h
theorem zeu {t : TypeId} (h : zfA P t = true) : ∃ ms, P.underlying t = some (.interface ms) := by
  unfold zfA at h
  split at h
  · exact ⟨_, by assumption⟩
  · simp at h
theorem zfs {t e : TypeId} (hu : P.underlying t = some (.pointer e)) (d : Nat) (q : Option Addr) (w : World) : (Op.equalIn (d + 1) t (.pointer none) (.pointer q)).run P w = .ok q.isNone w := by
  unfold Op.equalIn
  simp only [Sem.run_bind, run_underlying hu, Result.andThen_ok]
  rfl
theorem zft {t e : TypeId} (hu : P.underlying t = some (.pointer e)) (d : Nat) (q : Option Addr) (w : World) : (Op.equalIn (d + 1) t (.pointer q) (.pointer none)).run P w = .ok q.isNone w := by
  unfold Op.equalIn
  simp only [Sem.run_bind, run_underlying hu, Result.andThen_ok]
  cases q <;> rfl
theorem zbx {t : TypeId} {ms : Array (String × TypeId)} (hu : P.underlying t = some (.interface ms)) (d : Nat) (u : TypeId) (x : Value) (w : World) : (Op.equalIn (d + 1) t (.iface u x) .nilIface).run P w = .ok false w := by
  unfold Op.equalIn
  simp only [Sem.run_bind, run_underlying hu, Result.andThen_ok]
  rfl
theorem zaL (t : TypeId) (x y : Value) : Op.equal t x y = Op.equalIn (9999 + 1) t x y := rfl
theorem zbe {t : TypeId} {x y : Value} {b : Bool} {w : World} (h : (Op.equal t x y).run P w = .ok b w) (hx : binOp .eql t x y = (do pure (.bool (← Op.equal t x y)))) : (binOp .eql t x y).run P w = .ok (.bool b) w := by
  rw [hx]; simp [h]
theorem zbf {t : TypeId} {x y : Value} {b : Bool} {w : World} (h : (Op.equal t x y).run P w = .ok b w) (hx : binOp .neq t x y = (do pure (.bool (!(← Op.equal t x y))))) : (binOp .neq t x y).run P w = .ok (.bool (!b)) w := by
  rw [hx]; simp [h]
theorem ze1 {t : TypeId} {x y : AV} {b : Bool} {vx vy : Value} (h : zeC P t x y = some b) (hx : VRel S x vx) (hy : VRel S y vy) (d : Nat) : (Op.equalIn (d + 1) t vx vy).run P S.w = .ok b S.w := by
  unfold zeC at h
  split at h
  · simp only [VRel] at hx hy
    subst hx; subst hy
    split at h
    · rename_i hk
      obtain ⟨k', hu⟩ := ziE hk.1
      simp only [Option.some.injEq] at h
      subst h
      unfold Op.equalIn
      simp only [Sem.run_bind, run_underlying hu, Result.andThen_ok, hk.2, if_true]
      rfl
    · simp at h
  · simp only [VRel] at hx hy
    subst hx; subst hy
    split at h
    · rename_i hu
      have hu := zho hu
      simp only [Option.some.injEq] at h
      subst h
      exact run_equalIn_bool S.w d t _ _ hu
    · simp at h
  · simp only [VRel] at hx hy
    subst hx; subst hy
    split at h
    · rename_i hu
      have hu := ziD hu
      simp only [Option.some.injEq] at h
      subst h
      unfold Op.equalIn
      simp only [Sem.run_bind, run_underlying hu, Result.andThen_ok, beq_toListBytes]
      rfl
    · simp at h
  · simp at h
theorem zfG {eq : TypeId → AV → AV → Option Bool} {d : Nat} (heq : ∀ t x y b vx vy, eq t x y = some b → VRel S x vx → VRel S y vy → (Op.equalIn d t vx vy).run P S.w = .ok b S.w) {xs ys : List AV} {l m : Array Value} (hx : LRel S xs l.toList) (hy : LRel S ys m.toList) :
    ∀ (fs : List Field) (b : Bool), (fs.all fun f => !(f.name == "_")) = true → zcp P eq xs ys (fs.map fun f => (f.type, f.offset)) = some b → (Op.eqFields d l m fs).run P S.w = .ok b S.w
  | [], b, _, h => by simp only [List.map_nil, zcp, Option.some.injEq] at h; subst h; rfl
  | f :: fs, b, hn, h => by
    simp only [List.map_cons, zcp] at h
    simp only [List.all_cons, Bool.and_eq_true] at hn
    split at h
    · rename_i u v hu hv
      split at h
      · rename_i r s hr hs
        simp only [Option.some.injEq] at h
        subst h
        obtain ⟨vu, h1, h2⟩ := zdZ hu hx
        obtain ⟨vv, h3, h4⟩ := zdZ hv hy
        have h5 := heq _ _ _ _ _ _ hr h2 h4
        have h6 := zfG heq hx hy fs s hn.2 hs
        have hn' : f.name ≠ "_" := by simpa using hn.1
        rw [Op.eqFields]
        simp only [if_pos hn', Sem.run_bind, h1, h3, h5, Result.andThen_ok]
        cases r
        · simp
        · simpa using h6
      · simp at h
    · simp at h
theorem zd0 : ∀ (d : Nat) (t : TypeId) (x y : AV) (b : Bool) (vx vy : Value), zaq P d t x y = some b → VRel S x vx → VRel S y vy → ∀ k, (Op.equalIn (k + d + 1) t vx vy).run P S.w = .ok b S.w
  | 0, t, x, y, b, vx, vy, h, hx, hy, k => ze1 (by simpa [zaq] using h) hx hy k
  | d + 1, t, x, y, b, vx, vy, h, hx, hy, k => by
    cases x with
    | agg xs =>
      cases y with
      | agg ys =>
        simp only [zaq] at h
        unfold zb1 fieldsOf at h
        cases hu : P.underlying t with
        | none => simp [hu] at h
        | some dd =>
          cases dd <;> simp only [hu, Option.bind_none, reduceCtorEq] at h
          rename_i fs
          simp only [Option.bind_some] at h
          by_cases hc : (fs.toList.all (fun f => !(f.name == "_")) && !P.stoodInHeld t) = true
          · rw [if_pos hc] at h
            simp only [Bool.and_eq_true] at hc
            have hst : P.stoodInHeld t = false := by simpa using hc.2
            simp only [VRel] at hx hy
            obtain ⟨l, rfl, hl⟩ := hx
            obtain ⟨m, rfl, hm⟩ := hy
            have hf : P.fieldsOf t = fs := by simp [Program.fieldsOf, hu]
            rw [run_equalIn_struct (P := P) S.w (k + (d + 1)) t l m (by rw [hf]; exact hu) hst, hf]
            exact zfG (fun t x y b vx vy h hx hy => by
              have := zd0 d t x y b vx vy h hx hy k
              rwa [show k + d + 1 = k + (d + 1) by omega] at this) hl hm _ _ hc.1 h
          · rw [if_neg hc] at h; simp at h
      | _ => exact ze1 (by simpa only [zaq] using h) hx hy _
    | _ => exact ze1 (by simpa only [zaq] using h) hx hy _
theorem zlv {op : BinOp} {t : TypeId} {x y r : AV} {vx vy : Value} {ox oy : Operand} (h : zfC P op t x y = some r) (hx : VRel S x vx) (hy : VRel S y vy) :
    ∃ u, (do eqGuard op t ox oy vx vy; binOp op t vx vy : Sem Value).run P S.w = .ok u S.w ∧ VRel S r u := by
  have ptrs : ∀ (p q : Option Addr) (b : Bool) (v : Value), zjq P t = true → zbc op b = some v → ((p = none ∧ b = q.isNone) ∨ (q = none ∧ b = p.isNone)) → (binOp op t (.pointer p) (.pointer q)).run P S.w = .ok v S.w := by
    intro p q b v hu hb hpq
    obtain ⟨e, hu⟩ := zmf hu
    rcases zcb hb with ⟨rfl, rfl⟩ | ⟨rfl, rfl⟩
    · rcases hpq with ⟨rfl, rfl⟩ | ⟨rfl, rfl⟩
      · exact zbe (by rw [zaL]; exact zfs hu _ _ _) rfl
      · exact zbe (by rw [zaL]; exact zft hu _ _ _) rfl
    · rcases hpq with ⟨rfl, rfl⟩ | ⟨rfl, rfl⟩
      · exact zbf (by rw [zaL]; exact zfs hu _ _ _) rfl
      · exact zbf (by rw [zaL]; exact zft hu _ _ _) rfl
  have wrap : ∀ u, vx ≠ .nilIface → (∀ l, vx ≠ .agg l) → (binOp op t vx vy).run P S.w = .ok u S.w → (do eqGuard op t ox oy vx vy; binOp op t vx vy : Sem Value).run P S.w = .ok u S.w := by
    intro u h1 h2 h3
    simp only [Sem.run_bind, ze0 h2 h1, Result.andThen_ok, h3]
  unfold zfC at h
  split at h
  · simp only [VRel] at hx hy
    subst hx; subst hy
    split at h
    · simp only [Option.map_eq_some_iff] at h
      obtain ⟨v, hv, rfl⟩ := h
      exact ⟨v, wrap v (by simp) (by simp) (zjz hv t S.w), by simp [VRel]⟩
    · rename_i hns
      split at h
      · rename_i hk
        subst hk
        simp only [Option.map_eq_some_iff] at h
        obtain ⟨v, hv, rfl⟩ := h
        exact ⟨v, wrap v (by simp) (by simp) (zlt (by simpa using hns) hv t S.w), by simp [VRel]⟩
      · simp at h
  · simp only [VRel] at hx hy
    subst hx; subst hy
    simp only [Option.map_eq_some_iff] at h
    obtain ⟨v, hv, rfl⟩ := h
    exact ⟨v, wrap v (by simp) (by simp) (zlu hv t S.w), by simp [VRel]⟩
  · simp only [VRel] at hx hy
    subst hx; subst hy
    split at h
    · rename_i hu
      have hu := zho hu
      simp only [Option.map_eq_some_iff] at h
      obtain ⟨v, hv, rfl⟩ := h
      refine ⟨v, wrap v (by simp) (by simp) ?_, by simp [VRel]⟩
      unfold zic at hv
      split at hv <;> simp only [Option.some.injEq, reduceCtorEq] at hv <;> subst hv
      · exact run_eql_bool (P := P) S.w t _ _ hu
      · exact run_neq_bool (P := P) S.w t _ _ hu
    · simp at h
  all_goals (
    first
    | (split at h
       case isFalse => simp at h
       rename_i hu
       simp only [Option.map_eq_some_iff] at h
       obtain ⟨v, hv, rfl⟩ := h
       simp only [VRel] at hx hy
       first
       | (subst hx; subst hy
          exact ⟨v, wrap v (by simp) (by simp) (ptrs _ _ _ _ hu hv (.inl ⟨rfl, rfl⟩)), by simp [VRel]⟩)
       | (subst hx
          obtain ⟨b, o, rfl, _⟩ := hy
          exact ⟨v, wrap v (by simp) (by simp) (ptrs _ _ _ _ hu hv (.inl ⟨rfl, rfl⟩)), by simp [VRel]⟩)
       | (subst hx
          obtain ⟨rfl, _⟩ := hy
          exact ⟨v, wrap v (by simp) (by simp) (ptrs _ _ _ _ hu hv (.inl ⟨rfl, rfl⟩)), by simp [VRel]⟩)
       | (subst hy
          obtain ⟨b, o, rfl, _⟩ := hx
          exact ⟨v, wrap v (by simp) (by simp) (ptrs _ _ _ _ hu hv (.inr ⟨rfl, rfl⟩)), by simp [VRel]⟩)
       | (subst hy
          obtain ⟨rfl, _⟩ := hx
          exact ⟨v, wrap v (by simp) (by simp) (ptrs _ _ _ _ hu hv (.inr ⟨rfl, rfl⟩)), by simp [VRel]⟩)
       | (subst hy
          obtain ⟨b, rfl, _⟩ := hx
          obtain ⟨ms, hu⟩ := zeu hu
          refine ⟨v, wrap v (by simp) (by simp) ?_, by simp [VRel]⟩
          rcases zcb hv with ⟨rfl, rfl⟩ | ⟨rfl, rfl⟩
          · exact zbe (by rw [zaL]; exact zbx hu _ _ _ _) rfl
          · exact zbf (by rw [zaL]; exact zbx hu _ _ _ _) rfl))
    | simp at h)
theorem zmg {op : BinOp} {t : TypeId} {x y r : AV} {vx vy : Value} {ox oy : Operand} (h : zaB P op t x y = some r) (hx : VRel S x vx) (hy : VRel S y vy) :
    ∃ u, (do eqGuard op t ox oy vx vy; binOp op t vx vy : Sem Value).run P S.w = .ok u S.w ∧ VRel S r u := by
  unfold zaB at h
  split at h
  · rename_i xs ys
    split at h
    · rename_i hg
      simp only [Option.bind_eq_some_iff, Option.map_eq_some_iff] at h
      obtain ⟨b, hb, v, hv, rfl⟩ := h
      have he := zd0 4 t _ _ b vx vy hb hx hy 9995
      simp only [VRel] at hx hy
      obtain ⟨l, rfl, hl⟩ := hx
      obtain ⟨m, rfl, hm⟩ := hy
      have he' : (Op.equal t (.agg l) (.agg m)).run P S.w = .ok b S.w := he
      refine ⟨v, ?_, by simp [VRel]⟩
      simp only [Sem.run_bind, run_eqGuard_agg (P := P) S.w op t ox oy l m hg, Result.andThen_ok]
      rcases zcb hv with ⟨rfl, rfl⟩ | ⟨rfl, rfl⟩
      · exact zbe he' rfl
      · exact zbf he' rfl
    · simp at h
  · exact zlv h hx hy
end
end Go.Proofs.YtckabcbfbpejkaaGreatDoor.Av
namespace Go.Proofs.YtckabcbfbpejkaaGreatDoor.Av
open Go
set_option linter.unusedSimpArgs false
set_option linter.unusedVariables false
section
variable {P : Program} {m : zL} {S : Ctx}
theorem zm5 {op : UnOp} {x r : AV} {v : Value} (h : zjs op x = some r) (hx : VRel S x v) : ∃ u, (Op.unary op v).run P S.w = .ok u S.w ∧ VRel S r u := by
  unfold zjs at h
  split at h <;> simp only [Option.some.injEq, reduceCtorEq] at h <;> subst h <;> simp only [VRel] at hx <;> subst hx
  · exact ⟨_, rfl, by simp [VRel]⟩
  · exact ⟨_, rfl, by simp [VRel]⟩
theorem zi7 {src dst : TypeId} {x r : AV} {v : Value} (h : zdg P src dst x = some r) (hx : VRel S x v) : ∃ u, (convert src dst v).run P S.w = .ok u S.w ∧ VRel S r u := by
  unfold zdg at h
  split at h
  · rename_i k0 n
    simp only [VRel] at hx
    subst hx
    split at h
    · rename_i hsrc
      obtain ⟨ks, hsrc⟩ := ziE hsrc
      simp only [Option.map_eq_some_iff] at h
      obtain ⟨k, hk, rfl⟩ := h
      unfold zcg at hk
      split at hk
      · rename_i k' hd
        simp only [Option.some.injEq] at hk
        subst hk
        refine ⟨.int k' (k'.wrap n), ?_, by simp [VRel]⟩
        simp only [convert, Sem.run_bind, run_underlying hsrc, run_underlying hd, Result.andThen_ok]
        rfl
      · simp at hk
    · simp at h
  · simp at h
theorem zgv {t : TypeId} (h : (zaa P t).isSome = true) : ∃ e, P.underlying t = some (.slice e) := by
  unfold zaa at h
  split at h
  · exact ⟨_, by assumption⟩
  · simp at h
theorem ziF {t : TypeId} (h : zlr P t = true) : ∃ k e, P.underlying t = some (.map k e) := by
  unfold zlr at h
  split at h
  · exact ⟨_, _, by assumption⟩
  · simp at h
theorem zmh (hm : SRelM m S) {t ty : TypeId} {x r : AV} {v : Value} (h : zca P m t x = some r) (hx : VRel S x v) :
    ∃ u, (Builtin.len_ #[t] ty #[v]).run P S.w = .ok u S.w ∧ VRel S r u := by
  unfold zca at h
  split at h
  · split at h
    · rename_i hu
      have hu := ziD hu
      simp only [Option.some.injEq] at h; subst h
      simp only [VRel] at hx; subst hx
      exact ⟨_, by simp [Builtin.len_, run_underlying hu, goInt]; rfl, by simp [VRel]⟩
    · simp at h
  · split at h
    · rename_i hu
      obtain ⟨e, hu⟩ := zgv hu
      simp only [Option.some.injEq] at h; subst h
      simp only [VRel] at hx
      obtain ⟨base, cap, rfl, _⟩ := hx
      exact ⟨_, by simp [Builtin.len_, run_underlying hu, goInt]; rfl, by simp [VRel]⟩
    · simp at h
  · split at h
    · rename_i hu
      obtain ⟨e, hu⟩ := zgv hu
      simp only [Option.some.injEq] at h; subst h
      simp only [VRel] at hx
      obtain ⟨cap, rfl, _⟩ := hx
      exact ⟨_, by simp [Builtin.len_, run_underlying hu, goInt]; rfl, by simp [VRel]⟩
    · simp at h
  · split at h
    · rename_i hu
      obtain ⟨k, e, hu⟩ := ziF hu
      simp only [Option.some.injEq] at h; subst h
      simp only [VRel] at hx; subst hx
      exact ⟨_, by simp [Builtin.len_, run_underlying hu, goInt]; rfl, by simp [VRel]⟩
    · simp at h
  · rename_i i
    split at h
    · rename_i hu
      obtain ⟨k, e, hu⟩ := ziF hu
      split at h
      · rename_i ents he
        simp only [Option.some.injEq] at h; subst h
        simp only [VRel] at hx
        obtain ⟨rfl, _⟩ := hx
        obtain ⟨_, _, _, es, clock, e0, hb, hp, hk, _⟩ := hm.live i _ he
        have hlen : es.size = ents.length := by
          have := congrArg List.length hk
          rw [← hp.length_eq]
          simpa using this
        refine ⟨_, by simp [Builtin.len_, run_underlying hu, goInt, MapKept.run_getObj_map hb]; rfl, by simp [VRel, hlen]⟩
      · simp at h
    · simp at h
  · simp at h
theorem zmi {ts : Array TypeId} {ty : TypeId} {x y r : AV} {v u : Value} (h : zhg x y = some r) (hx : VRel S x v) (hy : VRel S y u) : ∃ z, (Builtin.max_ ts ty #[v, u]).run P S.w = .ok z S.w ∧ VRel S r z := by
  unfold zhg at h
  split at h
  · simp only [Option.some.injEq] at h; subst h
    simp only [VRel] at hx hy; subst hx; subst hy
    exact ⟨_, by simp [Builtin.max_, Builtin.max2]; rfl, by simp [VRel]⟩
  · simp at h
theorem zmj {ts : Array TypeId} {ty : TypeId} {x y r : AV} {v u : Value} (h : zhh x y = some r) (hx : VRel S x v) (hy : VRel S y u) : ∃ z, (Builtin.min_ ts ty #[v, u]).run P S.w = .ok z S.w ∧ VRel S r z := by
  unfold zhh at h
  split at h
  · simp only [Option.some.injEq] at h; subst h
    simp only [VRel] at hx hy; subst hx; subst hy
    exact ⟨_, by simp [Builtin.min_, Builtin.min2]; rfl, by simp [VRel]⟩
  · simp at h
theorem zlw {ts : Array TypeId} {ty : TypeId} {x y z r : AV} {v u w : Value} (h : zfD x y z = some r) (hx : VRel S x v) (hy : VRel S y u) (hz : VRel S z w) : ∃ q, (Builtin.min_ ts ty #[v, u, w]).run P S.w = .ok q S.w ∧ VRel S r q := by
  unfold zfD at h
  split at h
  · rename_i k a k1 b k2 c
    simp only [Option.some.injEq] at h; subst h
    simp only [VRel] at hx hy hz; subst hx; subst hy; subst hz
    have e : ∀ a b : Int, (if b < a then b else a) = min a b := fun a b => by rw [Int.min_def]; split <;> split <;> omega
    refine ⟨.int k (min (min a b) c), ?_, by simp [VRel]⟩
    rw [← e, ← e]
    simp [Builtin.min_, Builtin.min2]
  · simp at h
theorem zm6 (vs : List Value) : ∀ (off j : Nat) (cells : Array Value), off + j + vs.length ≤ cells.size →
    ((vs.zipIdx j).foldl (fun (cs : Array Value) (p : Value × Nat) => cs.setIfInBounds (off + p.2) p.1) cells).toList = cells.toList.take (off + j) ++ vs ++ cells.toList.drop (off + j + vs.length) := by
  induction vs with
  | nil => intro off j cells _; simp
  | cons v vs ih =>
    intro off j cells h
    simp only [List.length_cons] at h
    simp only [List.zipIdx_cons, List.foldl_cons]
    rw [ih off (j + 1) _ (by simp; omega)]
    simp only [Array.toList_setIfInBounds]
    apply List.ext_getElem?
    intro k
    simp only [List.append_assoc, List.getElem?_append, List.length_take, List.length_set, List.getElem?_take, List.getElem?_drop, List.getElem?_set, List.length_cons, Array.length_toList]
    rw [Nat.min_eq_left (show off + (j + 1) ≤ cells.size by omega), Nat.min_eq_left (show off + j ≤ cells.size by omega)]
    rcases Nat.lt_trichotomy k (off + j) with hk | hk | hk
    · have h1 : k < off + (j + 1) := by omega
      have h2 : ¬ off + j = k := by omega
      simp only [hk, h1, h2, if_true, if_false]
    · subst hk
      have h1 : off + j < off + (j + 1) := by omega
      have h2 : ¬ off + j < off + j := by omega
      have h3 : off + j < cells.size := by omega
      simp only [h1, h2, h3, if_true, if_false, Nat.sub_self, Nat.zero_lt_succ, List.getElem?_cons_zero]
    · obtain ⟨d, rfl⟩ : ∃ d, k = off + (j + 1) + d := ⟨k - (off + (j + 1)), by omega⟩
      have h1 : ¬ off + (j + 1) + d < off + (j + 1) := by omega
      have h2 : ¬ off + (j + 1) + d < off + j := by omega
      have h3 : off + (j + 1) + d - (off + j) = d + 1 := by omega
      have h5 : ¬ off + j = off + (j + 1) + vs.length + (d - vs.length) := by omega
      simp only [h1, h2, h3, if_false, Nat.add_sub_cancel_left, List.getElem?_cons_succ, Nat.add_lt_add_iff_right, h5]
      split
      · rfl
      · congr 1; omega
theorem zm7 (v : Value) (off : Nat) (cells : Array Value) (h : off + v.cells.size ≤ cells.size) :
    (v.cells.zipIdx.foldl (fun cs (c, j) => cs.setIfInBounds (off + j) c) cells).toList = cells.toList.take off ++ v.cells.toList ++ cells.toList.drop (off + v.cells.size) := by
  have := zm6 v.cells.toList off 0 cells (by simpa using h)
  rw [← Array.foldl_toList, Array.toList_zipIdx]
  simpa using this
theorem zgT {place : Nat → Option (Nat × Nat)} {cells arr : Array Value} {i : Nat} {v : Value} {rest : List (Nat × Value)} {off : Nat} (hp : place i = some (off, v.cells.size)) (hle : off + v.cells.size ≤ cells.size)
    (harr : arr.toList = cells.toList.take off ++ v.cells.toList ++ cells.toList.drop (off + v.cells.size)) : Instr.fill place cells ((i, v) :: rest) = Instr.fill place arr rest := by
  have h2 : ¬ (off + v.cells.size > cells.size) := by omega
  simp only [Instr.fill, hp, ne_eq, not_true_eq_false, decide_false, Bool.false_or, decide_eq_true_eq, h2, if_false, Bool.false_eq_true]
  have e : (v.cells.zipIdx.foldl (fun cs (c, j) => cs.setIfInBounds (off + j) c) cells) = arr := by
    apply Array.ext'
    rw [harr]
    exact zm7 v off cells hle
  rw [← e]
theorem zjA {t : TypeId} {place : Nat → Option (Nat × Nat)} (hplace : ∀ i ft off n, zat P t i = some (ft, off) → z6 P ft = some n → place i = some (off, n)) :
    ∀ {parts : List (Nat × AV)} {vparts : List (Nat × Value)} {cs cs' : List AV} {cells : Array Value}, zcW P t parts cs = some cs' → LRel S cs cells.toList →
      vparts.map (·.1) = parts.map (·.1) → (∀ (j : Nat) (a : AV) (v : Value), (parts[j]?).map (·.2) = some a → (vparts[j]?).map (·.2) = some v → VRel S a v) →
      ∃ arr, Instr.fill place cells vparts = some arr ∧ LRel S cs' arr.toList := by
  intro parts
  induction parts with
  | nil =>
    intro vparts cs cs' cells h hr hl _
    simp only [List.map_nil, List.map_eq_nil_iff] at hl
    subst hl
    simp only [zcW, Option.some.injEq] at h
    subst h
    exact ⟨cells, rfl, hr⟩
  | cons p parts ih =>
    intro vparts cs cs' cells h hr hl hv
    cases vparts with
    | nil => simp at hl
    | cons q vparts =>
      obtain ⟨i, a⟩ := p
      obtain ⟨i', v⟩ := q
      simp only [List.map_cons, List.cons.injEq] at hl
      obtain ⟨rfl, hl⟩ := hl
      simp only [zcW] at h
      cases hf : zat P t i' with
      | none => simp [hf] at h
      | some p =>
        obtain ⟨ft, off⟩ := p
        simp only [hf] at h
        split at h
        · rename_i hc
          obtain ⟨c1, c2, c3⟩ := hc
          have hva := hv 0 a v rfl rfl
          have hcr := zdh c3 hva
          have hsz : v.cells.size = a.cells.length := by rw [hcr.length]; simp
          have hcl : cells.size = cs.length := by rw [hr.length]; simp
          let arr : Array Value := (cells.toList.take off ++ v.cells.toList ++ cells.toList.drop (off + v.cells.size)).toArray
          rw [zgT (arr := arr) (off := off) (by rw [hsz]; exact hplace _ _ _ _ hf c1) (by omega) (by simp [arr])]
          refine ih h ?_ hl (fun j a v h1 h2 => hv (j + 1) a v (by simpa using h1) (by simpa using h2))
          simp only [arr]
          rw [hsz]
          exact ((hr.take _).append hcr).append (hr.drop _)
        · simp at h
theorem zfu {α β : Type} {f : α → Sem β} {g : α → β} {w : World} : ∀ {l : List α}, (∀ x ∈ l, (f x).run P w = .ok (g x) w) → (l.mapM f).run P w = .ok (l.map g) w
  | [], _ => by simp
  | x :: l, h => by
    have h1 := h x (by simp)
    have h2 := zfu (l := l) (f := f) (g := g) (fun y hy => h y (by simp [hy]))
    simp [List.mapM_cons, h1, h2]
theorem zkC {t : TypeId} {parts : List (Nat × AV)} {vparts : Array (Nat × Value)} {r : AV} (h : zgd P t parts = some r)
    (hl : vparts.toList.map (·.1) = parts.map (·.1)) (hv : ∀ (j : Nat) (a : AV) (v : Value), (parts[j]?).map (·.2) = some a → (vparts.toList[j]?).map (·.2) = some v → VRel S a v) :
    ∃ u, (Instr.build t vparts).run P S.w = .ok u S.w ∧ VRel S r u := by
  unfold zgd at h
  cases hz : z7 P t with
  | none => simp [hz] at h
  | some z =>
    simp only [hz] at h
    split at h
    · rename_i hall
      simp only [Option.map_eq_some_iff] at h
      obtain ⟨cs, hcs, rfl⟩ := h
      unfold zcj fieldsOf at hall
      cases hu : P.underlying t with
      | none => simp [hu] at hall
      | some d =>
        cases d <;> simp only [hu, Bool.false_eq_true] at hall
        rename_i fs
        have hsz : ∀ f ∈ fs.toList, ∃ n, z6 P f.type = some n := fun f hf => Option.isSome_iff_exists.1 (by simpa using (List.all_eq_true.1 hall) f hf)
        have hm : (fs.mapM fun f => (do pure (f.offset, ← sizeOf f.type) : Sem (Nat × Nat))).run P S.w = .ok (fs.map fun f => (f.offset, (z6 P f.type).getD 0)) S.w := by
          rw [Array.mapM_eq_mapM_toList]
          have := zfu (P := P) (w := S.w) (l := fs.toList) (f := fun f => (do pure (f.offset, ← sizeOf f.type) : Sem (Nat × Nat))) (g := fun f => (f.offset, (z6 P f.type).getD 0)) (fun f hf => by
            obtain ⟨n, hn⟩ := hsz f hf
            simp [zU hn, hn])
          rw [Sem.run_map, this, Result.andThen_ok, ← Array.toList_map, Array.toArray_toList]
        obtain ⟨arr, ha, hr⟩ := zjA (P := P) (place := fun i => (fs.map fun f => (f.offset, (z6 P f.type).getD 0))[i]?) (fun i ft off n hi hn => by
          obtain ⟨fs', fd, hu', hf, rfl, rfl⟩ := zdY hi
          rw [hu] at hu'
          simp only [Option.some.injEq, TypeDesc.struct.injEq] at hu'
          subst hu'
          simp [hf, hn]) hcs (zba S z) hl hv
        refine ⟨.agg arr, ?_, by simp only [VRel]; exact ⟨_, rfl, hr⟩⟩
        simp only [Instr.build, Sem.run_bind, zbn hz, Result.andThen_ok, run_underlying hu, hm]
        simp only [ha]
        rfl
    · simp at h
theorem zdx {t : TypeId} {n : Nat} {e : TypeId} (h : zR P t = some (n, e)) : P.underlying t = some (.array n e) := by
  unfold zR at h
  cases hu : P.underlying t with
  | none => simp [hu] at h
  | some d => cases d <;> simp [hu] at h; obtain ⟨rfl, rfl⟩ := h; rfl
theorem zjB {t : TypeId} {x ix r : AV} {v vi : Value} (h : zdR P t x ix = some r) (hx : VRel S x v) (hi : VRel S ix vi) :
    ∃ u, (Instr.indexAt t v vi).run P S.w = .ok u S.w ∧ VRel S r u := by
  unfold zdR at h
  split at h
  · rename_i len e ha
    have hu := zdx ha
    unfold zdQ at h
    split at h
    · rename_i k i
      simp only [VRel] at hi
      subst hi
      cases hs : z6 P e with
      | none => simp [hs] at h
      | some n =>
        simp only [hs] at h
        split at h
        · rename_i hc
          cases x <;> simp only [Option.some.injEq, reduceCtorEq] at h
          · subst h
            simp only [VRel] at hx
            obtain ⟨b, o, rfl, hb, hr⟩ := hx
            refine ⟨_, by simp [Instr.indexAt, asIntOf, run_underlying hu, hc.1, hc.2, zU hs, Instr.sureAddr]; rfl, ?_⟩
            simp only [VRel]
            exact ⟨b, o, by rw [zaQ, Nat.add_assoc], hb, hr⟩
          · subst h
            simp only [VRel] at hx
            obtain ⟨rfl, hk⟩ := hx
            refine ⟨_, by simp [Instr.indexAt, asIntOf, run_underlying hu, hc.1, hc.2, zU hs, Instr.sureAddr]; rfl, ?_⟩
            simp only [VRel]
            exact ⟨by rw [zaQ, Nat.add_assoc], hk⟩
        · simp at h
    · simp at h
  · exact zhm h hx hi
theorem zjC : ∀ {l : List AV}, zN l = true → (zjp l).cells = l
  | [], _ => rfl
  | [a], h => by
    cases a <;> first | rfl | simp [zN, cellOK] at h
  | _ :: _ :: _, _ => rfl
theorem zdy (n : Nat) : ∀ (k : Nat) (row : List AV), (zdf n k row).length = k
  | 0, _ => rfl
  | k + 1, row => by simp [zdf, zdy n k]
theorem zhp {S : Ctx} {b n : Nat} : ∀ (k : Nat) (row : List AV) (o : Nat), row.length = k * n → zN row = true → CRel S row b o → ERel S n (zdf n k row) b o
  | 0, _, _, _, _, _ => by simp [zdf, ERel]
  | k + 1, row, o, hl, hc, h => by
    have e1 : (row.take n).length = n := by rw [List.length_take, hl, Nat.succ_mul]; omega
    have hall : ∀ x ∈ row, cellOK x = true := by simpa [zN] using hc
    have c1 : zN (row.take n) = true := by
      simp only [zN, List.all_eq_true]; exact fun x hx => hall x (List.mem_of_mem_take hx)
    have c2 : zN (row.drop n) = true := by
      simp only [zN, List.all_eq_true]; exact fun x hx => hall x (List.mem_of_mem_drop hx)
    unfold zdf
    rw [zaO, zjC c1]
    exact ⟨e1, h.take n, zhp k _ _ (by rw [List.length_drop, hl, Nat.succ_mul]; omega) c2 (h.drop n)⟩
theorem zjD {t : TypeId} {len : Nat} {e : TypeId} {x r : AV} {lo hi : Option AV} {v : Value} {vlo vhi : Option Value} (ha : zR P t = some (len, e)) (h : zeS P len e x lo hi = some r) (hx : VRel S x v) (hlo : za7 S lo vlo) (hhi : za7 S hi vhi) :
    ∃ u, (Instr.sliceAt t v vlo vhi none).run P S.w = .ok u S.w ∧ VRel S r u := by
  have hu := zdx ha
  unfold zeS at h
  split at h
  · rename_i row n hs
    split at h
    · rename_i hc
      simp only [Option.some.injEq] at h
      subst h
      cases vlo with
      | some _ => simp [za7] at hlo
      | none =>
      cases vhi with
      | some _ => simp [za7] at hhi
      | none =>
      simp only [VRel] at hx
      obtain ⟨b, o, rfl, hb, hr⟩ := hx
      refine ⟨_, by simp [Instr.sliceAt, run_underlying hu, Instr.sureAddr, Instr.sliceBounds, zU hs]; rfl, ?_⟩
      simp only [VRel]
      refine ⟨_, _, by rw [zdy], by rw [zdy]; exact Nat.le_refl _, fun _ => by rw [zdy], fun _ => ⟨b, o, ?_, hb, zhp len row o hc.1 hc.2 hr⟩⟩
      by_cases e0 : len = 0
      · simp [e0]
      · simp [e0, zaQ]
    · simp at h
  · simp at h
theorem zjE {t : TypeId} {s : ByteArray} {r : AV} {lo hi : Option AV} {vlo vhi : Option Value} (hu : P.underlying t = some .string) (h : zeT s lo hi = some r) (hlo : za7 S lo vlo) (hhi : za7 S hi vhi) :
    ∃ u, (Instr.sliceAt t (.string s) vlo vhi none).run P S.w = .ok u S.w ∧ VRel S r u := by
  unfold zeT at h
  split at h
  · rename_i l hh el eh
    split at h
    · rename_i hc
      simp only [Option.some.injEq] at h
      subst h
      obtain ⟨hlh, hhc⟩ := hc
      have hb : (Instr.sliceBounds false s.size s.size vlo vhi none).run P S.w = .ok (l, hh, s.size) S.w := by
        unfold Instr.sliceBounds
        rcases zcq hlo el with ⟨rfl, rfl⟩ | ⟨k, i, rfl, hi0, rfl⟩ <;> rcases zcq hhi eh with ⟨rfl, rfl⟩ | ⟨k', i', rfl, hi0', rfl⟩
        · simp
        · have : i' ≤ (s.size : Int) := by omega
          simp [Instr.sliceBound, asIntOf, hi0', this]
        · have : i ≤ (s.size : Int) := by omega
          simp [Instr.sliceBound, asIntOf, hi0, this]
        · have : i' ≤ (s.size : Int) := by omega
          have h2 : i ≤ i' := by omega
          simp [Instr.sliceBound, asIntOf, hi0, hi0', this, h2, Int.toNat_of_nonneg hi0']
      refine ⟨_, by simp [Instr.sliceAt, Instr.slice, run_underlying hu, hb]; rfl, by simp [VRel]⟩
    · simp at h
  · simp at h
theorem zjF {t : TypeId} {x r : AV} {lo hi : Option AV} {v : Value} {vlo vhi : Option Value} (h : zdU P t x lo hi = some r) (hx : VRel S x v) (hlo : za7 S lo vlo) (hhi : za7 S hi vhi) :
    ∃ u, (Instr.sliceAt t v vlo vhi none).run P S.w = .ok u S.w ∧ VRel S r u := by
  unfold zdU at h
  split at h
  · split at h
    · rename_i hc
      simp only [VRel] at hx
      subst hx
      refine zjE ?_ h hlo hhi
      unfold zdT at hc
      split at hc
      · assumption
      · cases hc
    · simp at h
  · split at h
    · rename_i ha
      exact zjD ha h hx hlo hhi
    · simp at h
  · exact zkA h hx hlo hhi
theorem zjG {t : TypeId} {len : Nat} {e : TypeId} {x ix r : AV} {v vi : Value} (ha : zR P t = some (len, e)) (h : zeR P len e x ix = some r) (hx : VRel S x v) (hi : VRel S ix vi) :
    ∃ u, (Instr.index t v vi).run P S.w = .ok u S.w ∧ VRel S r u := by
  have hu := zdx ha
  unfold zeR at h
  split at h
  · rename_i cs k i
    simp only [VRel] at hi hx
    subst hi
    obtain ⟨l, rfl, hl⟩ := hx
    cases hs : z6 P e with
    | none => simp [hs] at h
    | some n =>
      simp only [hs] at h
      split at h
      · rename_i hc
        obtain ⟨u, hrun, hr⟩ := zdZ h hl
        exact ⟨u, by simp [Instr.index, asIntOf, run_underlying hu, hc.1, hc.2, zU hs, hrun], hr⟩
      · simp at h
  · simp at h
theorem zi8 {n : Nat} : ∀ {parts : List (Nat × AV)} {vparts : List (Nat × Value)} {cs cs' : List AV} {cells : Array Value}, zct n parts cs = some cs' → LRel S cs cells.toList →
      vparts.map (·.1) = parts.map (·.1) → (∀ (j : Nat) (a : AV) (v : Value), (parts[j]?).map (·.2) = some a → (vparts[j]?).map (·.2) = some v → VRel S a v) →
      ∃ arr, Instr.fill (fun i => some (i * n, n)) cells vparts = some arr ∧ LRel S cs' arr.toList := by
  intro parts
  induction parts with
  | nil =>
    intro vparts cs cs' cells h hr hl _
    simp only [List.map_nil, List.map_eq_nil_iff] at hl
    subst hl
    simp only [zct, Option.some.injEq] at h
    subst h
    exact ⟨cells, rfl, hr⟩
  | cons p parts ih =>
    intro vparts cs cs' cells h hr hl hv
    cases vparts with
    | nil => simp at hl
    | cons q vparts =>
      obtain ⟨i, a⟩ := p
      obtain ⟨i', v⟩ := q
      simp only [List.map_cons, List.cons.injEq] at hl
      obtain ⟨rfl, hl⟩ := hl
      simp only [zct] at h
      split at h
      · rename_i hc
        obtain ⟨c1, c2, c3⟩ := hc
        have hva := hv 0 a v rfl rfl
        have hcr := zdh c3 hva
        have hsz : v.cells.size = a.cells.length := by rw [hcr.length]; simp
        have hcl : cells.size = cs.length := by rw [hr.length]; simp
        let arr : Array Value := (cells.toList.take (i' * n) ++ v.cells.toList ++ cells.toList.drop (i' * n + v.cells.size)).toArray
        rw [zgT (arr := arr) (off := i' * n) (by rw [hsz, c1]) (by omega) (by simp [arr])]
        refine ih h ?_ hl (fun j a v h1 h2 => hv (j + 1) a v (by simpa using h1) (by simpa using h2))
        simp only [arr]
        rw [hsz]
        exact ((hr.take _).append hcr).append (hr.drop _)
      · simp at h
theorem zjH {t : TypeId} {parts : List (Nat × AV)} {vparts : Array (Nat × Value)} {r : AV} (h : zdW P t parts = some r)
    (hl : vparts.toList.map (·.1) = parts.map (·.1)) (hv : ∀ (j : Nat) (a : AV) (v : Value), (parts[j]?).map (·.2) = some a → (vparts.toList[j]?).map (·.2) = some v → VRel S a v) :
    ∃ u, (Instr.build t vparts).run P S.w = .ok u S.w ∧ VRel S r u := by
  unfold zdW at h
  split at h
  · rename_i len e ha
    have hu := zdx ha
    unfold zgQ at h
    split at h
    · rename_i n z hs hz
      simp only [Option.map_eq_some_iff] at h
      obtain ⟨cs, hcs, rfl⟩ := h
      obtain ⟨arr, ha, hr⟩ := zi8 hcs (zba S z) hl hv
      refine ⟨.agg arr, ?_, by simp only [VRel]; exact ⟨_, rfl, hr⟩⟩
      simp only [Instr.build, Sem.run_bind, zbn hz, Result.andThen_ok, run_underlying hu, zU hs]
      simp only [ha]
      rfl
    · simp at h
  · exact zkC h hl hv
end
end Go.Proofs.YtckabcbfbpejkaaGreatDoor.Av
