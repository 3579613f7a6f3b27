/- The queries' laws: the program walked, and plain laws of what it computes. Part 9 of 13: AvT8, AvN25, AvT9, AvT10, AvN26, AvN27, AvN28, AvN29, AvN30, AvN15. -/
import Derived.Test.YtanimmdlgmkmkaaNet7
import Derived.Test.YtanimmdlgmkmkaaNet8

/- Tables of atoms, the plain law: what a table holds of ranges that were added, and taken away. -/
namespace Go.Proofs.Ytanimmdlgmkmkaa.Av
set_option linter.unusedSimpArgs false
set_option linter.unusedVariables false

theorem nodup_le {α : Type} [DecidableEq α] : ∀ {l m : List α}, l.Nodup → (∀ x ∈ l, x ∈ m) → l.length ≤ m.length
  | [], _, _, _ => by simp
  | a :: l, m, h, hs => by
    have h' := List.nodup_cons.1 h
    have := nodup_le (m := m.erase a) h'.2 fun x hx => by
      have hne : x ≠ a := fun e => h'.1 (e ▸ hx)
      exact (List.mem_erase_of_ne hne).2 (hs x (by simp [hx]))
    have hl := List.length_erase_of_mem (hs a (by simp))
    have hpos : 0 < m.length := List.length_pos_of_mem (hs a (by simp))
    simp only [List.length_cons]
    omega
def optc (n : Nat) : Option Int := if n = 0 then none else some n
theorem optc_getD (n : Nat) : (optc n).getD 0 = n := by
  unfold optc
  split
  · rename_i h; subst h; rfl
  · rfl
theorem optc_none (n : Nat) : optc n = none ↔ n = 0 := by
  unfold optc
  split
  · rename_i h; simp [h]
  · rename_i h; simp [h]

/-- A tree that counts the elements of a list. -/
structure KeyRep (t : Tr) (l : List Int) : Prop where
  srt : Tr.Srt t.toL
  get : ∀ k, t.get k = optc (l.count k)
theorem KeyRep.mem {t : Tr} {l : List Int} (h : KeyRep t l) (k : Int) : k ∈ t.toL.map (·.1) ↔ k ∈ l := by
  have := Tr.get_none h.srt k
  rw [h.get, optc_none, List.count_eq_zero] at this
  constructor
  · intro hk
    apply Classical.byContradiction
    intro hn
    exact this.1 hn hk
  · intro hk
    apply Classical.byContradiction
    intro hn
    exact this.2 hn hk
theorem Tr.Srt.nodup {l : List (Int × Int)} (h : Tr.Srt l) : (l.map (·.1)).Nodup := by
  unfold Tr.Srt at h
  unfold List.Nodup
  rw [List.pairwise_map]
  exact h.imp fun hab => by omega
theorem KeyRep.sz {t : Tr} {l : List Int} (h : KeyRep t l) : t.sz ≤ l.length := by
  have := nodup_le h.srt.nodup fun x hx => (h.mem x).1 hx
  rw [Tr.sz_toL]
  simp at this
  omega
theorem KeyRep.perm {t : Tr} {l m : List Int} (h : KeyRep t l) (p : l.Perm m) : KeyRep t m := ⟨h.srt, fun k => by rw [h.get, p.count_eq]⟩
theorem KeyRep.more {t : Tr} {l : List Int} (h : KeyRep t l) (k : Int) (hl : l.length < 1024) : MoreOK t k 1 ∧ KeyRep (moreT t k 1) (k :: l) := by
  have hs := h.sz
  have hc := List.count_le_length (a := k) (l := l)
  have hg : (t.get k).getD 0 = (l.count k : Nat) := by rw [h.get, optc_getD]
  have hne : ¬ (t.get k).getD 0 + 1 = 0 := by omega
  refine ⟨⟨by omega, by omega, by omega, fun e => absurd e hne, fun _ => by omega⟩, ?_⟩
  unfold moreT
  rw [if_neg hne]
  refine ⟨by rw [Tr.with_toL t _ _ h.srt]; exact Tr.put_srt h.srt _ _, fun k2 => ?_⟩
  rw [Tr.get_with h.srt, List.count_cons, hg]
  by_cases e : k2 = k
  · subst e
    rw [if_pos rfl]
    unfold optc
    simp
  · rw [if_neg e, h.get]
    have : (k == k2) = false := by simp; omega
    simp [this]
theorem Tr.get_without {t : Tr} (h : Tr.Srt t.toL) (k k2 : Int) : (t.without k).get k2 = if k2 = k then none else t.get k2 := by
  have hs : Tr.Srt (t.without k).toL := by rw [Tr.without_toL t k h]; exact h.filter _
  rw [Tr.get_eq _ _ hs, Tr.without_toL t k h, Tr.get_eq _ _ h, List.find?_filter]
  by_cases e : k2 = k
  · subst e
    rw [if_pos rfl]
    have : t.toL.find? (fun a => decide ((!decide (a.1 = k2)) = true ∧ decide (a.1 = k2) = true)) = none := List.find?_eq_none.2 fun e he => by simp
    rw [this]; rfl
  · rw [if_neg e]
    congr 2
    funext a
    by_cases q : a.1 = k2
    · have : ¬ a.1 = k := by omega
      simp [q]; omega
    · simp [q]
theorem KeyRep.less {t : Tr} {l : List Int} {k : Int} (h : KeyRep t (k :: l)) (hl : l.length < 2 ^ 30) : MoreOK t k (-1) ∧ KeyRep (moreT t k (-1)) l := by
  have hs := h.sz
  have hc := List.count_le_length (a := k) (l := l)
  have hg0 : t.get k = some ((l.count k : Nat) + 1) := by
    rw [h.get, List.count_cons_self]; unfold optc; simp
  have hg : (t.get k).getD 0 = (l.count k : Nat) + 1 := by rw [hg0]; rfl
  simp only [List.length_cons] at hs
  refine ⟨⟨by omega, by omega, by omega, fun _ => by simp [hg0], fun e => by simp [hg0] at e⟩, ?_⟩
  unfold moreT
  rw [hg]
  split
  · rename_i h0
    refine ⟨by rw [Tr.without_toL t k h.srt]; exact h.srt.filter _, fun k2 => ?_⟩
    rw [Tr.get_without h.srt, h.get, List.count_cons]
    by_cases e : k2 = k
    · subst e
      rw [if_pos rfl]
      have : l.count k2 = 0 := by omega
      rw [this]; rfl
    · rw [if_neg e]
      have : (k == k2) = false := by simp; omega
      simp [this]
  · rename_i h0
    refine ⟨by rw [Tr.with_toL t _ _ h.srt]; exact Tr.put_srt h.srt _ _, fun k2 => ?_⟩
    rw [Tr.get_with h.srt, h.get, List.count_cons]
    by_cases e : k2 = k
    · subst e
      rw [if_pos rfl]
      have : ¬ l.count k2 = 0 := by omega
      unfold optc
      rw [if_neg this]
      congr 1; omega
    · rw [if_neg e]
      have : (k == k2) = false := by simp; omega
      simp [this]

def endsL (L : List Rg) : List Int := L.flatMap endsR
/-- A table that holds these ranges. -/
structure TabRep (T : Tab) (L : List Rg) : Prop where
  b : KeyRep T.b (0 :: endsL L)
  g : KeyRep T.g (L.map keyR)
  n : T.n = L.length
  ok : ∀ r ∈ L, RgOK r
theorem rep_new : TabRep newTab [] where
  b := ⟨by simp [newTab, Tr.toL, Tr.Srt], fun k => by
    simp only [newTab, Tr.get, endsL, List.flatMap_nil]
    by_cases h1 : k < 0
    · have : ((0 : Int) == k) = false := by simp; omega
      simp [h1, List.count_cons, this, optc]
    · by_cases h2 : 0 < k
      · have : ((0 : Int) == k) = false := by simp; omega
        simp [h1, h2, List.count_cons, this, optc]
      · have : k = 0 := by omega
        subst this; simp [optc]⟩
  g := ⟨by simp [newTab, Tr.toL, Tr.Srt], fun k => by simp [newTab, Tr.get, optc]⟩
  n := rfl
  ok := by simp
theorem endsR_len (r : Rg) : (endsR r).length ≤ 2 := by unfold endsR; split <;> simp
theorem endsL_len (L : List Rg) : (endsL L).length ≤ 2 * L.length := by
  induction L with
  | nil => simp [endsL]
  | cons r L ih =>
    have := endsR_len r
    simp only [endsL, List.flatMap_cons, List.length_append, List.length_cons] at ih ⊢
    omega
theorem fold_more : ∀ (E : List Int) {t : Tr} {l : List Int}, KeyRep t l → l.length + E.length < 1024 →
    KeyRep (E.foldl (fun b e => moreT b e 1) t) (E ++ l) ∧ ∀ (i : Nat) (e : Int), E[i]? = some e → MoreOK ((E.take i).foldl (fun b e => moreT b e 1) t) e 1
  | [], t, l, h, _ => ⟨h, fun i e he => by simp at he⟩
  | x :: E, t, l, h, hl => by
    simp only [List.length_cons] at hl
    obtain ⟨h1, h2⟩ := h.more x (by omega)
    obtain ⟨h3, h4⟩ := fold_more E h2 (by simp only [List.length_cons]; omega)
    refine ⟨h3.perm ?_, fun i e he => ?_⟩
    · exact List.perm_middle
    · cases i with
      | zero => simp only [List.getElem?_cons_zero, Option.some.injEq] at he; subst he; exact h1
      | succ i => exact h4 i e (by simpa using he)
theorem fold_less : ∀ (E : List Int) {t : Tr} {l : List Int}, KeyRep t (E ++ l) → l.length + E.length < 2 ^ 29 →
    KeyRep (E.foldl (fun b e => moreT b e (-1)) t) l ∧ ∀ (i : Nat) (e : Int), E[i]? = some e → MoreOK ((E.take i).foldl (fun b e => moreT b e (-1)) t) e (-1)
  | [], t, l, h, _ => ⟨h, fun i e he => by simp at he⟩
  | x :: E, t, l, h, hl => by
    simp only [List.length_cons] at hl
    obtain ⟨h1, h2⟩ := KeyRep.less (l := E ++ l) h (by simp only [List.length_append]; omega)
    obtain ⟨h3, h4⟩ := fold_less E h2 (by omega)
    refine ⟨h3, fun i e he => ?_⟩
    cases i with
    | zero => simp only [List.getElem?_cons_zero, Option.some.injEq] at he; subst he; exact h1
    | succ i => exact h4 i e (by simpa using he)
theorem rep_add {T : Tab} {L : List Rg} (h : TabRep T L) {r : Rg} (hr : RgOK r) (hl : L.length < 500) : WithOK T r 1 ∧ TabRep (T.with_ r 1) (r :: L) := by
  have he := endsL_len L
  have hr2 := endsR_len r
  obtain ⟨g1, g2⟩ := h.g.more (keyR r) (by simp only [List.length_map]; omega)
  obtain ⟨b1, b2⟩ := fold_more (endsR r) h.b (by simp only [List.length_cons]; omega)
  have hn := h.n
  refine ⟨⟨hr, by omega, by omega, g1, b2⟩, ⟨?_, g2, ?_, ?_⟩⟩
  · refine b1.perm ?_
    simp only [endsL, List.flatMap_cons]
    exact List.perm_middle
  · show T.n + 1 = _
    simp only [List.length_cons]; omega
  · intro x hx
    rcases List.mem_cons.1 hx with rfl | hx
    · exact hr
    · exact h.ok x hx
theorem TabRep.perm {T : Tab} {L M : List Rg} (h : TabRep T L) (p : L.Perm M) : TabRep T M where
  b := h.b.perm ((p.flatMap_right endsR).cons 0)
  g := h.g.perm (p.map keyR)
  n := by rw [h.n, p.length_eq]
  ok := fun r hr => h.ok r (p.mem_iff.2 hr)
theorem rep_drop {T : Tab} {L : List Rg} {r : Rg} (h : TabRep T (r :: L)) (hl : L.length < 500) : WithOK T r (-1) ∧ TabRep (T.with_ r (-1)) L := by
  have he := endsL_len L
  have hr2 := endsR_len r
  obtain ⟨g1, g2⟩ := KeyRep.less (l := L.map keyR) h.g (by simp only [List.length_map]; omega)
  have hb : KeyRep T.b (endsR r ++ 0 :: endsL L) := h.b.perm (by
    simp only [endsL, List.flatMap_cons]
    exact List.perm_middle.symm)
  obtain ⟨b1, b2⟩ := fold_less (endsR r) hb (by simp only [List.length_cons]; omega)
  have hn := h.n
  simp only [List.length_cons] at hn
  exact ⟨⟨h.ok r (by simp), by omega, by omega, g1, b2⟩, ⟨b1, g2, by show T.n + -1 = _; omega, fun x hx => h.ok x (by simp [hx])⟩⟩
theorem keyR_inj {r s : Rg} (hr : RgOK r) (hs : RgOK s) (h : keyR r = keyR s) : r = s := by
  obtain ⟨a1, a2, a3, a4⟩ := hr
  obtain ⟨b1, b2, b3, b4⟩ := hs
  unfold keyR at h
  cases r; cases s
  simp only [Rg.mk.injEq] at *
  omega
theorem rep_count {T : Tab} {L : List Rg} (h : TabRep T L) {r : Rg} (hr : RgOK r) : (T.g.get (keyR r)).getD 0 = (L.count r : Nat) := by
  rw [h.g.get, optc_getD]
  congr 1
  have := h.ok
  clear h
  induction L with
  | nil => rfl
  | cons s L ih =>
    rw [List.map_cons, List.count_cons, List.count_cons, ih fun x hx => this x (by simp [hx])]
    congr 1
    by_cases e : s = r
    · subst e; simp
    · have : keyR s ≠ keyR r := fun he => e (keyR_inj (this s (by simp)) hr he)
      simp [e, this]

/-! ### Cuts -/
structure Cuts (c : List Int) (L : List Rg) : Prop where
  srt : c.Pairwise (· < ·)
  mem : ∀ x, x ∈ c ↔ x = 0 ∨ ∃ r ∈ L, x ∈ endsR r
theorem cuts_unique : ∀ {c d : List Int}, c.Pairwise (· < ·) → d.Pairwise (· < ·) → (∀ x, x ∈ c ↔ x ∈ d) → c = d
  | [], [], _, _, _ => rfl
  | [], y :: d, _, _, h => by have := (h y).2 (by simp); simp at this
  | x :: c, [], _, _, h => by have := (h x).1 (by simp); simp at this
  | x :: c, y :: d, hc, hd, h => by
    obtain ⟨h1, h2⟩ := List.pairwise_cons.1 hc
    obtain ⟨h3, h4⟩ := List.pairwise_cons.1 hd
    have hxy : x = y := by
      rcases List.mem_cons.1 ((h x).1 (by simp)) with e | e
      · exact e
      · rcases List.mem_cons.1 ((h y).2 (by simp)) with e2 | e2
        · exact e2.symm
        · have := h1 y e2; have := h3 x e; omega
    subst hxy
    congr 1
    refine cuts_unique h2 h4 fun z => ?_
    constructor
    · intro hz
      rcases List.mem_cons.1 ((h z).1 (by simp [hz])) with e | e
      · subst e; have := h1 z hz; omega
      · exact e
    · intro hz
      rcases List.mem_cons.1 ((h z).2 (by simp [hz])) with e | e
      · subst e; have := h3 z hz; omega
      · exact e
def keysT (T : Tab) : List Int := T.b.toL.map (·.1)
theorem rep_cuts {T : Tab} {L : List Rg} (h : TabRep T L) : Cuts (keysT T) L where
  srt := by
    have := h.b.srt
    unfold keysT
    rw [List.pairwise_map]
    exact this
  mem := fun x => by
    unfold keysT
    rw [h.b.mem, List.mem_cons]
    simp only [endsL, List.mem_flatMap]
theorem endsR_mem {r : Rg} (hr : RgOK r) {x : Int} (hx : x ∈ endsR r) : 0 ≤ x ∧ x < 4294967296 := by
  obtain ⟨a1, a2, a3, a4⟩ := hr
  unfold endsR at hx
  split at hx
  · simp only [List.mem_cons, List.not_mem_nil, or_false] at hx; omega
  · simp only [List.mem_cons, List.not_mem_nil, or_false] at hx; omega
theorem Cuts.range {c : List Int} {L : List Rg} (h : Cuts c L) (ok : ∀ r ∈ L, RgOK r) {x : Int} (hx : x ∈ c) : 0 ≤ x ∧ x < 4294967296 := by
  rcases (h.mem x).1 hx with rfl | ⟨r, hr, hx⟩
  · omega
  · exact endsR_mem (ok r hr) hx
/-- The atoms between cuts. -/
def atomsC : List Int → List Rg
  | [] => []
  | [x] => [⟨x, 4294967295⟩]
  | x :: y :: l => ⟨x, y - 1⟩ :: atomsC (y :: l)
theorem atomsC_len : ∀ c : List Int, (atomsC c).length = c.length
  | [] => rfl
  | [x] => rfl
  | x :: y :: l => by simp only [atomsC, List.length_cons, atomsC_len (y :: l)]
theorem atomsC_get : ∀ (c : List Int) (i : Nat), (atomsC c)[i]? = (c[i]?).map fun x => ⟨x, match c[i + 1]? with | some y => y - 1 | none => 4294967295⟩
  | [], i => by simp [atomsC]
  | [x], 0 => by simp [atomsC]
  | [x], i + 1 => by simp [atomsC]
  | x :: y :: l, 0 => by simp [atomsC]
  | x :: y :: l, i + 1 => by simp only [atomsC, List.getElem?_cons_succ, atomsC_get (y :: l) i]
/-- What is cut out of a range. -/
def cutOne (r a : Rg) : Option Rg := if max a.lo r.lo ≤ min a.hi r.hi then some ⟨max a.lo r.lo, min a.hi r.hi⟩ else none
def cutC (c : List Int) (r : Rg) : List Rg := (atomsC c).filterMap (cutOne r)
theorem countP_srt {c : List Int} (h : c.Pairwise (· < ·)) (a : Int) : ∀ (i : Nat) (x : Int), c[i]? = some x → (x ≤ a ↔ i < c.countP fun y => decide (y ≤ a)) := by
  induction c with
  | nil => intro i x hx; simp at hx
  | cons y c ih =>
    obtain ⟨h1, h2⟩ := List.pairwise_cons.1 h
    intro i x hx
    cases i with
    | zero =>
      simp only [List.getElem?_cons_zero, Option.some.injEq] at hx
      subst hx
      rw [List.countP_cons]
      by_cases q : y ≤ a
      · simp [q]
      · have : c.countP (fun y => decide (y ≤ a)) = 0 := List.countP_eq_zero.2 fun z hz => by have := h1 z hz; simp; omega
        simp [q, this]
    | succ i =>
      simp only [List.getElem?_cons_succ] at hx
      have := ih h2 i x hx
      rw [List.countP_cons]
      by_cases q : y ≤ a
      · simp only [q, decide_true, if_true]; rw [this]; omega
      · have h3 := h1 x (List.mem_of_getElem? hx)
        have : c.countP (fun y => decide (y ≤ a)) = 0 := List.countP_eq_zero.2 fun z hz => by have := h1 z hz; simp; omega
        rw [this]
        simp only [q, decide_false, Bool.false_eq_true, if_false]
        omega
end Go.Proofs.Ytanimmdlgmkmkaa.Av


/- Networks: where a packet goes, the plain law: it comes to an end. -/
namespace Go.Proofs.Ytanimmdlgmkmkaa.Av
set_option linter.unusedSimpArgs false
set_option linter.unusedVariables false

/-- The device that is next. -/
def nextDev (n : Nw) (p : Pt) : Int := ((nextM n.t p).getD ⟨0, 0⟩).dev
/-- A packet's way from a device on, behind these. -/
def walkT (n : Nw) (a : Int) : Nat → Int → List Int → Tk
  | 0, _, p => ⟨p, 4, ⟨0, 0⟩⟩
  | f + 1, d, p => if d ∈ p then ⟨p ++ [d], 4, ⟨0, 0⟩⟩ else if (stepF n d a).1 = 4 then walkT n a f (nextDev n (stepF n d a).2) (p ++ [d]) else ⟨p ++ [d], (stepF n d a).1, (stepF n d a).2⟩
/-- All devices to which a packet can come. -/
def devsN (n : Nw) (d : Int) : List Int := d :: n.t.links.flatMap fun l => [l.a.dev, l.b.dev]
theorem devsN_len (n : Nw) (d : Int) : (devsN n d).length = 1 + 2 * n.t.links.length := by
  unfold devsN
  generalize n.t.links = L
  induction L with
  | nil => rfl
  | cons l L ih => simp only [List.flatMap_cons, List.length_cons, List.length_append, List.length_nil] at ih ⊢; omega
def traceF (n : Nw) (d a : Int) : Tk := walkT n a (2 + 2 * n.t.links.length) d []
theorem joinM_vals (L : List Lk) : ∀ e ∈ joinM L, ∃ l ∈ L, e.2 = l.a ∨ e.2 = l.b := by
  have : ∀ (L M : List Lk) (m : List (Pt × Pt)), (∀ e ∈ m, ∃ l ∈ M, e.2 = l.a ∨ e.2 = l.b) → ∀ e ∈ L.foldl (fun m l => upd (upd m l.a l.b) l.b l.a) m, ∃ l ∈ M ++ L, e.2 = l.a ∨ e.2 = l.b := by
    intro L
    induction L with
    | nil => intro M m h e he; simpa using h e he
    | cons l L ih =>
      intro M m h e he
      rw [List.foldl_cons] at he
      have := ih (M ++ [l]) (upd (upd m l.a l.b) l.b l.a) ?_ e he
      · simpa using this
      · intro e he
        unfold upd at he
        rcases List.mem_append.1 he with he | he
        · rcases List.mem_append.1 (List.mem_filter.1 he).1 with he | he
          · obtain ⟨k, hk, h2⟩ := h e (List.mem_filter.1 he).1
            exact ⟨k, by simp [hk], h2⟩
          · simp only [List.mem_singleton] at he; subst he
            exact ⟨l, by simp, .inr rfl⟩
        · simp only [List.mem_singleton] at he; subst he
          exact ⟨l, by simp, .inl rfl⟩
  have := this L [] [] (by simp)
  rw [List.nil_append] at this
  exact this
theorem nextDev_mem {n : Nw} {p : Pt} {d : Int} (h : (nextM n.t p).isSome = true) : nextDev n p ∈ devsN n d := by
  unfold nextDev
  obtain ⟨q, hq⟩ := Option.isSome_iff_exists.1 h
  rw [hq]
  unfold nextM at hq
  rw [Option.map_eq_some_iff] at hq
  obtain ⟨e, he, rfl⟩ := hq
  obtain ⟨l, hl, h2⟩ := joinM_vals _ e (List.mem_of_find?_eq_some he)
  unfold devsN
  rw [List.mem_cons, List.mem_flatMap]
  right
  refine ⟨l, hl, ?_⟩
  rcases h2 with h2 | h2 <;> simp [h2]
theorem step_four {n : Nw} {d a : Int} (h : (stepF n d a).1 = 4) : (nextM n.t (stepF n d a).2).isSome = true := by
  unfold stepF at *
  repeat' split at h
  all_goals first | (simp at h; done) | skip
  rename_i h1 h2 h3 h4
  simp [h1, h2, h3, h4]
/-- A way that is under way. -/
structure Way (n : Nw) (a d0 : Int) (d : Int) (p : List Int) : Prop where
  nd : p.Nodup
  sub : ∀ x ∈ p, x ∈ devsN n d0
  at_ : d ∈ devsN n d0
  res : walkT n a (2 + 2 * n.t.links.length - p.length) d p = traceF n d0 a
theorem Way.len {n : Nw} {a d0 d : Int} {p : List Int} (h : Way n a d0 d p) : p.length ≤ 1 + 2 * n.t.links.length := by
  have := nodup_le h.nd h.sub
  rwa [devsN_len] at this
theorem Way.start (n : Nw) (a d0 : Int) : Way n a d0 d0 [] := ⟨by simp, by simp, by simp [devsN], rfl⟩
theorem Way.again {n : Nw} {a d0 d : Int} {p : List Int} (h : Way n a d0 d p) (hd : d ∈ p) : traceF n d0 a = ⟨p ++ [d], 4, ⟨0, 0⟩⟩ := by
  have hl := h.len
  have hr := h.res
  rw [show 2 + 2 * n.t.links.length - p.length = (1 + 2 * n.t.links.length - p.length) + 1 by omega, walkT, if_pos hd] at hr
  exact hr.symm
theorem Way.fin {n : Nw} {a d0 d : Int} {p : List Int} (h : Way n a d0 d p) (hd : d ∉ p) (hs : (stepF n d a).1 ≠ 4) : traceF n d0 a = ⟨p ++ [d], (stepF n d a).1, (stepF n d a).2⟩ := by
  have hl := h.len
  have hr := h.res
  rw [show 2 + 2 * n.t.links.length - p.length = (1 + 2 * n.t.links.length - p.length) + 1 by omega, walkT, if_neg hd, if_neg hs] at hr
  exact hr.symm
theorem Way.on {n : Nw} {a d0 d : Int} {p : List Int} (h : Way n a d0 d p) (hd : d ∉ p) (hs : (stepF n d a).1 = 4) : Way n a d0 (nextDev n (stepF n d a).2) (p ++ [d]) := by
  have hl := h.len
  have hr := h.res
  rw [show 2 + 2 * n.t.links.length - p.length = (1 + 2 * n.t.links.length - p.length) + 1 by omega, walkT, if_neg hd, if_pos hs] at hr
  refine ⟨?_, ?_, nextDev_mem (step_four hs), ?_⟩
  · rw [List.nodup_append]
    refine ⟨h.nd, by simp, fun x hx y hy e => ?_⟩
    simp only [List.mem_singleton] at hy
    subst hy; subst e; exact hd hx
  · intro x hx
    rcases List.mem_append.1 hx with hx | hx
    · exact h.sub x hx
    · simp only [List.mem_singleton] at hx; subst hx; exact h.at_
  · rw [List.length_append, List.length_singleton, ← hr]
    congr 1; omega
end Go.Proofs.Ytanimmdlgmkmkaa.Av


/- Cuts, the plain law: what is cut by places is what is cut by addresses; which ranges a table holds behind many. -/
namespace Go.Proofs.Ytanimmdlgmkmkaa.Av
set_option linter.unusedSimpArgs false
set_option linter.unusedVariables false

/-- A sorted list with a number more. -/
def insU (x : Int) : List Int → List Int
  | [] => [x]
  | y :: l => if x < y then x :: y :: l else if y < x then y :: insU x l else y :: l
theorem insU_mem (x z : Int) : ∀ l : List Int, z ∈ insU x l ↔ z = x ∨ z ∈ l
  | [] => by simp [insU]
  | y :: l => by
    simp only [insU]
    split
    · simp
    · split
      · simp only [List.mem_cons, insU_mem x z l]
        constructor
        · rintro (h | h | h)
          · exact .inr (.inl h)
          · exact .inl h
          · exact .inr (.inr h)
        · rintro (h | h | h)
          · exact .inr (.inl h)
          · exact .inl h
          · exact .inr (.inr h)
      · have : x = y := by omega
        subst this; simp
theorem insU_srt (x : Int) : ∀ l : List Int, l.Pairwise (· < ·) → (insU x l).Pairwise (· < ·)
  | [], _ => by simp [insU]
  | y :: l, h => by
    obtain ⟨h1, h2⟩ := List.pairwise_cons.1 h
    simp only [insU]
    split
    · rename_i hx
      refine List.pairwise_cons.2 ⟨fun z hz => ?_, h⟩
      rcases List.mem_cons.1 hz with rfl | hz
      · exact hx
      · have := h1 z hz; omega
    · split
      · rename_i hx
        refine List.pairwise_cons.2 ⟨fun z hz => ?_, insU_srt x l h2⟩
        rcases (insU_mem x z l).1 hz with rfl | hz
        · exact hx
        · exact h1 z hz
      · exact h
/-- The cuts of ranges. -/
def cutsL (L : List Rg) : List Int := (0 :: endsL L).foldr insU []
theorem cutsL_cuts (L : List Rg) : Cuts (cutsL L) L where
  srt := by
    unfold cutsL
    generalize 0 :: endsL L = l
    induction l with
    | nil => simp
    | cons x l ih => exact insU_srt x _ ih
  mem := fun x => by
    have : ∀ l : List Int, x ∈ l.foldr insU [] ↔ x ∈ l := fun l => by
      induction l with
      | nil => simp
      | cons y l ih => rw [List.foldr_cons, insU_mem, ih, List.mem_cons]
    unfold cutsL
    rw [this, List.mem_cons]
    simp only [endsL, List.mem_flatMap]
theorem Cuts.eq {c : List Int} {L : List Rg} (h : Cuts c L) : c = cutsL L := cuts_unique h.srt (cutsL_cuts L).srt fun x => by rw [h.mem, (cutsL_cuts L).mem]

theorem countP_mono {c : List Int} {a b : Int} (h : a ≤ b) : c.countP (fun y => decide (y ≤ a)) ≤ c.countP (fun y => decide (y ≤ b)) := by
  induction c with
  | nil => simp
  | cons y c ih =>
    simp only [List.countP_cons]
    by_cases q : y ≤ a
    · have : y ≤ b := by omega
      simp [q, this]; exact ih
    · by_cases q2 : y ≤ b
      · simp [q, q2]; omega
      · simp [q, q2]; exact ih
theorem Cuts.pos {c : List Int} {L : List Rg} (h : Cuts c L) {a : Int} (ha : 0 ≤ a) : 0 < c.countP (fun y => decide (y ≤ a)) :=
  List.countP_pos_iff.2 ⟨0, (h.mem 0).2 (.inl rfl), by simpa using ha⟩
/-- What is cut, by places. -/
theorem cut_by_place {c : List Int} {L : List Rg} (h : Cuts c L) {r : Rg} (hr : RgOK r) (hle : r.lo ≤ r.hi) {p q : Nat} (hp : c.countP (fun y => decide (y ≤ r.lo)) = p + 1) (hq : c.countP (fun y => decide (y ≤ r.hi)) = q + 1) :
    p ≤ q ∧ q < (atomsC c).length ∧ cutC c r = (List.range (q + 1 - p)).map fun k => ⟨max ((atomsC c).getD (p + k) ⟨0, 0⟩).lo r.lo, min ((atomsC c).getD (p + k) ⟨0, 0⟩).hi r.hi⟩ := by
  have hmono := countP_mono (c := c) hle
  have hlen : c.countP (fun y => decide (y ≤ r.hi)) ≤ c.length := List.countP_le_length
  have hA := atomsC_len c
  have hpq : p ≤ q := by omega
  have hqc : q < c.length := by omega
  refine ⟨hpq, by omega, ?_⟩
  obtain ⟨a1, a2, a3, a4⟩ := hr
  have hlo := countP_srt h.srt r.lo
  have hhi := countP_srt h.srt r.hi
  rw [hp] at hlo
  rw [hq] at hhi
  have get := atomsC_get c
  generalize hAe : atomsC c = A at *
  unfold cutC
  rw [hAe]
  have split3 : A = A.take p ++ ((A.drop p).take (q + 1 - p) ++ A.drop (q + 1)) := by
    have e : A.drop (q + 1) = (A.drop p).drop (q + 1 - p) := by rw [List.drop_drop]; congr 1; omega
    rw [e, List.take_append_drop, List.take_append_drop]
  have f1 : (A.take p).filterMap (cutOne r) = [] := by
    rw [List.filterMap_eq_nil_iff]
    intro a ha
    obtain ⟨i, hi⟩ := List.mem_iff_getElem?.1 ha
    rw [List.getElem?_take] at hi
    split at hi
    · rename_i hip
      rw [get i] at hi
      have hi1 : c[i + 1]? = some c[i + 1] := List.getElem?_eq_getElem (by omega)
      have hi0 : c[i]? = some c[i] := List.getElem?_eq_getElem (by omega)
      have := (hlo (i + 1) _ hi1).2 (by omega)
      rw [hi0, hi1] at hi
      simp only [Option.map_some, Option.some.injEq] at hi
      subst hi
      unfold cutOne
      rw [if_neg]
      simp only []
      omega
    · cases hi
  have f3 : (A.drop (q + 1)).filterMap (cutOne r) = [] := by
    rw [List.filterMap_eq_nil_iff]
    intro a ha
    obtain ⟨i, hi⟩ := List.mem_iff_getElem?.1 ha
    rw [List.getElem?_drop, get] at hi
    cases hc : c[q + 1 + i]? with
    | none => rw [hc] at hi; cases hi
    | some x =>
      have := hhi _ _ hc
      rw [hc] at hi
      simp only [Option.map_some, Option.some.injEq] at hi
      subst hi
      unfold cutOne
      rw [if_neg]
      simp only []
      omega
  rw [split3, List.filterMap_append, List.filterMap_append, f1, f3, List.nil_append, List.append_nil, ← split3]
  have hn : ((A.drop p).take (q + 1 - p)).length = q + 1 - p := by rw [List.length_take, List.length_drop]; omega
  have g : ∀ k, k < q + 1 - p → ∀ a, A[p + k]? = some a → cutOne r a = some ⟨max a.lo r.lo, min a.hi r.hi⟩ := by
    intro k hk a ha
    rw [get] at ha
    have hi0 : c[p + k]? = some c[p + k] := List.getElem?_eq_getElem (by omega)
    have b1 := (hhi (p + k) _ hi0).2 (by omega)
    rw [hi0] at ha
    simp only [Option.map_some, Option.some.injEq] at ha
    subst ha
    unfold cutOne
    rw [if_pos]
    simp only []
    cases hc : c[p + k + 1]? with
    | none => simp only []; omega
    | some y =>
      have := (hlo (p + k + 1) y hc)
      simp only []
      have hs := List.pairwise_iff_getElem.1 h.srt (p + k) (p + k + 1) (by omega) (by have := (List.getElem?_eq_some_iff.1 hc).1; omega) (by omega)
      have hy := (List.getElem?_eq_some_iff.1 hc).2
      omega
  have hfm : ∀ (G : Rg → Rg) (l : List Rg), (∀ a ∈ l, cutOne r a = some (G a)) → l.filterMap (cutOne r) = l.map G := by
    intro G l
    induction l with
    | nil => intro _; rfl
    | cons a l ih =>
      intro hx
      rw [List.filterMap_cons, hx a (by simp), List.map_cons, ih fun b hb => hx b (by simp [hb])]
  rw [hfm (fun a => ⟨max a.lo r.lo, min a.hi r.hi⟩) _ fun a ha => ?_]
  · apply List.ext_getElem?
    intro k
    rw [List.getElem?_map, List.getElem?_map, List.getElem?_take, List.getElem?_drop]
    by_cases hk : k < q + 1 - p
    · rw [if_pos hk, List.getElem?_range hk]
      have hx : A[p + k]? = some A[p + k] := List.getElem?_eq_getElem (by omega)
      simp only [hx, Option.map_some, List.getD_eq_getElem?_getD, Option.getD_some]
    · rw [if_neg hk, List.getElem?_eq_none (by simp; omega)]
      rfl
  · obtain ⟨k, hk⟩ := List.mem_iff_getElem?.1 ha
    rw [List.getElem?_take] at hk
    split at hk
    · rename_i hkk
      rw [List.getElem?_drop] at hk
      exact g k hkk a hk
    · cases hk

/-! ### Ranges that are added, one behind the other -/
def stepL (s : Option (List Rg)) (r : Rg) : Option (List Rg) := if r.hi < r.lo then none else if 500 ≤ (s.getD []).length then none else some (r :: s.getD [])
def RepO : Option Tab → Option (List Rg) → Prop
  | none, none => True
  | some T, some L => TabRep T L ∧ L.length ≤ 500
  | _, _ => False
theorem RepO.get {T : Option Tab} {s : Option (List Rg)} (h : RepO T s) : TabRep (T.getD newTab) (s.getD []) ∧ (s.getD []).length ≤ 500 := by
  cases T with
  | none => cases s with
    | none => exact ⟨rep_new, by simp⟩
    | some L => exact h.elim
  | some T => cases s with
    | none => exact h.elim
    | some L => exact h
theorem RepO.step {T : Option Tab} {s : Option (List Rg)} (h : RepO T s) {r : Rg} (hr : RgOK r) :
    (r.lo ≤ r.hi → (T.getD newTab).n < 500 → WithOK (T.getD newTab) r 1) ∧ RepO (addT T r).1 (stepL s r) := by
  obtain ⟨h1, h2⟩ := h.get
  have hn := h1.n
  refine ⟨fun _ hlt => (rep_add h1 hr (by omega)).1, ?_⟩
  unfold addT stepL
  by_cases q1 : r.hi < r.lo
  · rw [if_pos q1, if_pos q1]; trivial
  · rw [if_neg q1, if_neg q1]
    by_cases q2 : 500 ≤ (s.getD []).length
    · rw [if_pos q2, if_pos (by omega)]; trivial
    · rw [if_neg q2, if_neg (by omega)]
      exact ⟨(rep_add h1 hr (by omega)).2, by simp only [List.length_cons]; omega⟩
/-- The ranges that are held behind many. -/
def heldL (L : List Rg) : List Rg := (L.foldl stepL (some [])).getD []
theorem held_few {L : List Rg} (hle : ∀ r ∈ L, r.lo ≤ r.hi) (hl : L.length ≤ 500) : heldL L = L.reverse := by
  have : ∀ (L M : List Rg), (∀ r ∈ L, r.lo ≤ r.hi) → L.length + M.length ≤ 500 → L.foldl stepL (some M) = some (L.reverse ++ M) := by
    intro L
    induction L with
    | nil => intro M _ _; rfl
    | cons r L ih =>
      intro M h1 h2
      have := h1 r (by simp)
      simp only [List.length_cons] at h2
      have e : stepL (some M) r = some (r :: M) := by
        unfold stepL
        rw [if_neg (by omega), if_neg (by simp only [Option.getD_some]; omega)]; rfl
      rw [List.foldl_cons, e, ih _ (fun x hx => h1 x (by simp [hx])) (by simp only [List.length_cons]; omega)]
      simp
  unfold heldL
  rw [this L [] hle (by simpa using hl)]
  simp
theorem Cuts.perm {c : List Int} {L M : List Rg} (h : Cuts c L) (p : L.Perm M) : Cuts c M := ⟨h.srt, fun x => by
  rw [h.mem]
  constructor
  · rintro (h | ⟨r, hr, hx⟩)
    · exact .inl h
    · exact .inr ⟨r, p.mem_iff.1 hr, hx⟩
  · rintro (h | ⟨r, hr, hx⟩)
    · exact .inl h
    · exact .inr ⟨r, p.mem_iff.2 hr, hx⟩⟩
theorem cutsL_perm {L M : List Rg} (p : L.Perm M) : cutsL L = cutsL M := ((cutsL_cuts L).perm p).eq
/-- The program's place of an address, and its atoms, where the table holds these ranges. -/
theorem rep_of {T : Option Tab} {L : List Rg} (h : TabRep (T.getD newTab) L) (a : Int) : ofT T a = ((cutsL L).countP (fun y => decide (y ≤ a)) : Nat) - 1 := by
  unfold ofT placeT
  rw [Tr.cut_len _ _ h.b.srt, ← (rep_cuts h).eq]
  unfold keysT
  rw [List.countP_map]
  congr 2
  apply List.countP_congr
  intro e _
  simp only [Function.comp_apply, decide_eq_true_eq]
  omega
theorem rep_len {T : Option Tab} {L : List Rg} (h : TabRep (T.getD newTab) L) : (T.getD newTab).b.sz = (cutsL L).length := by
  rw [Tr.sz_toL, ← (rep_cuts h).eq]; unfold keysT; simp
theorem rep_atom {T : Option Tab} {L : List Rg} (h : TabRep (T.getD newTab) L) (i : Int) : atomT T i = if 0 ≤ i then (atomsC (cutsL L))[i.toNat]? else none := by
  have hc := rep_cuts h
  have hr : ∀ {x}, x ∈ keysT (T.getD newTab) → 0 ≤ x ∧ x < 4294967296 := fun hx => hc.range h.ok hx
  rw [← hc.eq]
  unfold atomT
  by_cases h0 : 0 ≤ i
  · rw [if_pos h0]
    have e1 : (T.getD newTab).b.atI i = (T.getD newTab).b.toL[i.toNat]? := by unfold Tr.atI; rw [if_pos h0, Tr.at_eq _ _ h0]
    have e2 : (T.getD newTab).b.atI (i + 1) = (T.getD newTab).b.toL[i.toNat + 1]? := by
      unfold Tr.atI; rw [if_pos (by omega), Tr.at_eq _ _ (by omega)]; congr 1; omega
    have e3 : ∀ j : Nat, (keysT (T.getD newTab))[j]? = ((T.getD newTab).b.toL[j]?).map fun e : Int × Int => e.1 := fun j => by unfold keysT; rw [List.getElem?_map]
    rw [e1, e2, atomsC_get, e3, e3]
    cases hp : (T.getD newTab).b.toL[i.toNat]? with
    | none => rfl
    | some p =>
      have hpm : p.1 ∈ keysT (T.getD newTab) := List.mem_map.2 ⟨p, List.mem_of_getElem? hp, rfl⟩
      have hpr := hr hpm
      simp only [Option.map_some, Option.some.injEq, Rg.mk.injEq]
      refine ⟨wrapU32 (by omega) (by omega), ?_⟩
      cases hq : (T.getD newTab).b.toL[i.toNat + 1]? with
      | none =>
        show IntKind.u32.wrap 4294967295 = 4294967295
        exact wrapU32 (by omega) (by omega)
      | some q =>
        have hqm : q.1 ∈ keysT (T.getD newTab) := List.mem_map.2 ⟨q, List.mem_of_getElem? hq, rfl⟩
        have hqr := hr hqm
        have hlt := List.pairwise_iff_getElem.1 h.b.srt i.toNat (i.toNat + 1) (List.getElem?_eq_some_iff.1 hp).1 (List.getElem?_eq_some_iff.1 hq).1 (by omega)
        rw [(List.getElem?_eq_some_iff.1 hp).2, (List.getElem?_eq_some_iff.1 hq).2] at hlt
        simp only [Option.map_some]
        rw [wrapU64 (by omega) (by omega), wrapU32 (by omega) (by omega)]
  · rw [if_neg h0]
    have e1 : (T.getD newTab).b.atI i = none := by unfold Tr.atI; rw [if_neg h0]
    rw [e1]; rfl
end Go.Proofs.Ytanimmdlgmkmkaa.Av


/- flow.Cut. -/
namespace Go.Proofs.Ytanimmdlgmkmkaa.Av
open Go
set_option linter.unusedSimpArgs false
set_option linter.unusedVariables false
set_option maxRecDepth 100000
set_option maxHeartbeats 4000000
set_option pp.maxSteps 600

def netsAV (l : List (Nw × Fl)) (f : Bool) : AV := .sl 3 (l.map fun p => nwAV p.1 p.2) f
def rgsAV (l : List Rg) (f : Bool) : AV := .sl 2 (l.map rgAV) f
@[simp] theorem nets_ids (K : Id → Prop) (l : List (Nw × Fl)) (f : Bool) : (netsAV l f).ids K := by simp only [netsAV, AV.ids]; exact idsL_map (fun p => nw_ids K p.1 p.2) l
@[simp] theorem rgs_ids (K : Id → Prop) (l : List Rg) (f : Bool) : (rgsAV l f).ids K := by simp only [rgsAV, AV.ids]; exact idsL_map (rg_ids K) l
/-- The ranges of networks' rules. -/
def rgsOf (l : List Nw) : List Rg := l.flatMap fun n => n.rules.map (·.r)
def cutP (l : List Nw) (r : Rg) : List Rg := if r.hi < r.lo then [] else cutC (cutsL (heldL (rgsOf l))) r
structure NwOK (n : Nw) : Prop where
  rg : ∀ r ∈ n.rules, RgOK r.r
  ports : n.t.ports.length < 2 ^ 44
  links : n.t.links.length < 2 ^ 42
  rules : n.rules.length < 2932031007403
  id : ∀ r ∈ n.rules, -9223372036854775808 ≤ r.id ∧ r.id < 9223372036854775808
theorem cut_calls (l : List (Nw × Fl)) (f : Bool) (r : Rg) (hr : RgOK r) (hn : ∀ p ∈ l, NwOK p.1) (hl : l.length < 2 ^ 40) :
    PCalls Try.prog 39 [netsAV l f, rgAV r] (.tup [rgsAV (cutP (l.map (·.1)) r) false, .raw (.int .i64 (if r.hi < r.lo then 31 else 0))]) := by
  refine pbody Try.func39 rfl (N := 76) rfl rfl (by simp) (by simp [noIds]) fun σ => ?_
  have hrf : ∀ x y : Int, AV.agg [.raw (.int .u32 x), .raw (.int .u32 y)] = rgAV ⟨x, y⟩ := fun _ _ => rfl
  have f3 : σ.m ⟨3, σ.nx 3, 2⟩ = none := fresh_none _ _ _
  by_cases q0 : r.hi < r.lo
  · unfold cutP
    rw [if_pos q0, if_pos q0]
    (try (first | (with_reducible refine dops_go ?_; simp [-cellOK, rg_cells, hrf, q0]) | (with_reducible refine OKv_go ?_; simp [-cellOK, rg_cells, hrf, q0]) | (with_reducible refine OKr_go ?_; simp [-cellOK, rg_cells, hrf, q0]))); repeat' (first | refine awp_seq ?_ | refine awp_block ?_ | (refine awp_skip ?_; try simp) | (refine awp_exit ?_; try simp) | (refine awp_ret ?_; try simp) | (refine awp_reg ?_; simp [-cellOK, rg_cells, hrf, q0]) | (refine awp_drawT (fun _ => false) mixed (by decide +kernel) ?_; simp [-cellOK, rg_cells, hrf, q0]) | (refine guarded_split ?_ ?_ <;> (intro hg; simp only [hg]; simp [-cellOK, rg_cells, hrf, q0])) | (apply awp_cond_t; focus (simp [-cellOK, rg_cells, hrf, q0]; done)) | (apply awp_cond_f; focus (simp [-cellOK, rg_cells, hrf, q0]; done)) | (refine awp_cond ?_; simp [-cellOK, rg_cells, hrf, q0]; refine ⟨?_, ?_⟩ <;> intro hc) | (refine awp_drawT isCallO mixed (by decide +kernel) ?_; simp [-cellOK, rg_cells, hrf, q0]) | fail)
    refine retP_weak (x := .tup [.sl 0 [] true, .raw (.int .i64 31)]) (.inr rfl) (by repeat (first | assumption | exact Ext.refl _ | refine ext_new' ?_ | refine Ext.setF ?_ (by first | assumption | (simp [new_nx', St.set, fresh_none]; done) | exact ext_fresh (by assumption)))) ?_ ?_
    · simp
    · simp only [giveUps, List.map_cons, List.map_nil, giveUp]
      exact weaker_tup weaker_sl
  rw [if_neg q0]
  refine awp_seq ?_
  (try (first | (with_reducible refine dops_go ?_; simp [-cellOK, rg_cells, hrf, q0]) | (with_reducible refine OKv_go ?_; simp [-cellOK, rg_cells, hrf, q0]) | (with_reducible refine OKr_go ?_; simp [-cellOK, rg_cells, hrf, q0]))); repeat' (first | refine awp_seq ?_ | refine awp_block ?_ | (refine awp_skip ?_; try simp) | (refine awp_exit ?_; try simp) | (refine awp_ret ?_; try simp) | (refine awp_reg ?_; simp [-cellOK, rg_cells, hrf, q0]) | (refine awp_drawT (fun _ => false) mixed (by decide +kernel) ?_; simp [-cellOK, rg_cells, hrf, q0]) | (refine guarded_split ?_ ?_ <;> (intro hg; simp only [hg]; simp [-cellOK, rg_cells, hrf, q0])) | (apply awp_cond_t; focus (simp [-cellOK, rg_cells, hrf, q0]; done)) | (apply awp_cond_f; focus (simp [-cellOK, rg_cells, hrf, q0]; done)) | (refine awp_cond ?_; simp [-cellOK, rg_cells, hrf, q0]; refine ⟨?_, ?_⟩ <;> intro hc) | (refine awp_drawT isCallO mixed (by decide +kernel) ?_; simp [-cellOK, rg_cells, hrf, q0]) | (refine PCalls.use (tabNew_calls) ?_; simp [-cellOK, rg_cells, hrf, q0]) | (refine Or.inl ⟨_, Or.inl (tabNew_calls), ?_⟩; simp [-cellOK, rg_cells, hrf, q0]) | fail)
  refine awp_freeze ⟨3, σ.nx 3, 2⟩ ?_
  generalize hτ : St.del _ _ = τ
  generalize hA : (fun t => giveUp _ _ _) = A
  have a3 : A 3 = .pp [.raw (.int .u32 r.lo), .raw (.int .u32 r.hi)] 0 := by rw [← hA, ← hτ]; simp [giveUp, St.new, St.del, rg_cells]
  have a6 : A 6 = tabO (some newTab) := by rw [← hA]; simp [tabO, tabP]
  have a21 : A 21 = netsAV l f := by rw [← hA]; simp [netsAV]
  have a22 : A 22 = .raw (.int .i64 l.length) := by rw [← hA]; simp [netsAV]
  have a23 : A 23 = .raw (.int .i64 0) := by rw [← hA]; simp
  have hE : Ext σ τ := by
    rw [← hτ]
    refine ⟨fun i o h => ?_, fun s => ?_⟩
    · rw [del_other (fun e => by rw [e, fresh_none] at h; cases h)]
      exact new_up _ _ h
    · exact St.new_le σ 3 2 (.buf [rgAV r]) s
  clear hτ hA
  refine awp_loopH (fun n B ρ => Ext σ ρ ∧ B 3 = .pp [.raw (.int .u32 r.lo), .raw (.int .u32 r.hi)] 0 ∧ B 21 = netsAV l f ∧ B 22 = .raw (.int .i64 l.length) ∧ ∃ (i : Nat) (T : Option Tab) (s : Option (List Rg)), B 23 = .raw (.int .i64 i) ∧ i ≤ l.length ∧ n = l.length - i ∧ B 6 = tabO T ∧ RepO T s ∧ s = (rgsOf ((l.take i).map (·.1))).foldl stepL (some [])) l.length ?_ ?_
  · exact ⟨hE, a3, a21, a22, 0, some newTab, some [], a23, by omega, by omega, a6, ⟨rep_new, by simp⟩, by simp [rgsOf]⟩
  clear hE a3 a6 a21 a22 a23
  rintro n B ρ ⟨hE, a3, a21, a22, i, T, s, a23, hi, rfl, a6, hrep, hs⟩ I1 hI1
  by_cases hlt : i < l.length
  · have hx : l[i]? = some l[i] := List.getElem?_eq_getElem hlt
    have w1 : IntKind.i64.wrap ((i : Int) + 1) = ((i + 1 : Nat) : Int) := by rw [wrap64 (by omega) (by omega)]; omega
    obtain ⟨nf, hnf⟩ : ∃ nf, l[i] = nf := ⟨_, rfl⟩
    have hok : NwOK nf.1 := hn nf (by rw [← hnf]; exact List.getElem_mem hlt)
    have hsum : rgsOf ((l.take (i + 1)).map (·.1)) = rgsOf ((l.take i).map (·.1)) ++ nf.1.rules.map (·.r) := by
      rw [List.take_add_one, hx, hnf]; simp [rgsOf]
    obtain ⟨N, fl⟩ := nf
    have hrl : N.rules.length < 2932031007403 := hok.rules
    have hnn : nwAV N fl = .agg [intsAV N.t.ports fl.p, linksAV N.t.links fl.l, rulesAV N.rules fl.r] := rfl
    have hnp : ∀ z : AV, z.cells.length = 3 → setPart (AV.agg [.sl 0 [] true, .sl 0 [] true, .sl 0 [] true]) 0 z.cells = .agg z.cells := fun z hz => by
      obtain ⟨a, b, c, h⟩ : ∃ a b c, z.cells = [a, b, c] := by
        match hh : z.cells with
        | [a, b, c] => exact ⟨a, b, c, rfl⟩
        | [] => rw [hh] at hz; cases hz
        | [_] => rw [hh] at hz; cases hz
        | [_, _] => rw [hh] at hz; cases hz
        | _ :: _ :: _ :: _ :: _ => rw [hh] at hz; simp at hz
      rw [h]; rfl
    (try (first | (with_reducible refine dops_go ?_; simp [-cellOK, a3, a6, a21, a22, a23, netsAV, hlt, hx, hnf, hnn, nw_cells]) | (with_reducible refine OKv_go ?_; simp [-cellOK, a3, a6, a21, a22, a23, netsAV, hlt, hx, hnf, hnn, nw_cells]) | (with_reducible refine OKr_go ?_; simp [-cellOK, a3, a6, a21, a22, a23, netsAV, hlt, hx, hnf, hnn, nw_cells]))); repeat' (first | refine awp_seq ?_ | refine awp_block ?_ | (refine awp_skip ?_; try simp) | (refine awp_exit ?_; try simp) | (refine awp_ret ?_; try simp) | (refine retP_same (by simp) ?_; simp) | (refine retP_no (by simp) (by simp [noIds]) (by repeat (first | assumption | exact Ext.refl _ | refine ext_new' ?_ | refine Ext.setF ?_ (by first | assumption | (simp [new_nx', St.set, fresh_none]; done) | exact ext_fresh (by assumption)))) ?_; simp [-cellOK, a3, a6, a21, a22, a23, netsAV, hlt, hx, hnf, hnn, nw_cells, new_m, set_m, new_nx']) | (refine awp_reg ?_; simp [-cellOK, a3, a6, a21, a22, a23, netsAV, hlt, hx, hnf, hnn, nw_cells]) | (refine awp_drawT (fun _ => false) mixed (by decide +kernel) ?_; simp [-cellOK, a3, a6, a21, a22, a23, netsAV, hlt, hx, hnf, hnn, nw_cells]) | (refine guarded_split ?_ ?_ <;> (intro hg; simp only [hg]; simp [-cellOK, a3, a6, a21, a22, a23, netsAV, hlt, hx, hnf, hnn, nw_cells])) | (apply awp_cond_t; focus (simp [-cellOK, a3, a6, a21, a22, a23, netsAV, hlt, hx, hnf, hnn, nw_cells]; done)) | (apply awp_cond_f; focus (simp [-cellOK, a3, a6, a21, a22, a23, netsAV, hlt, hx, hnf, hnn, nw_cells]; done)) | (refine awp_cond ?_; simp [-cellOK, a3, a6, a21, a22, a23, netsAV, hlt, hx, hnf, hnn, nw_cells]; refine ⟨?_, ?_⟩ <;> intro hc) | (refine awp_drawT isCallO mixed (by decide +kernel) ?_; simp [-cellOK, a3, a6, a21, a22, a23, netsAV, hlt, hx, hnf, hnn, nw_cells]) | fail)
    refine awp_loopH (fun n C τ => Ext σ τ ∧ C 3 = .pp [.raw (.int .u32 r.lo), .raw (.int .u32 r.hi)] 0 ∧ C 21 = netsAV l f ∧ C 22 = .raw (.int .i64 l.length) ∧ C 23 = .raw (.int .i64 i) ∧ C 28 = rulesAV N.rules fl.r ∧ C 29 = .raw (.int .i64 N.rules.length) ∧ ∃ (j : Nat) (T : Option Tab) (s' : Option (List Rg)), C 30 = .raw (.int .i64 j) ∧ j ≤ N.rules.length ∧ n = N.rules.length - j ∧ C 6 = tabO T ∧ RepO T s' ∧ s' = ((N.rules.take j).map (·.r)).foldl stepL s) N.rules.length ?_ ?_
    · exact ⟨(by repeat (first | assumption | exact Ext.refl _ | refine ext_new' ?_ | refine Ext.setF ?_ (by first | assumption | (simp [new_nx', St.set, fresh_none]; done) | exact ext_fresh (by assumption)))), by simp [a3], by simp [a21, netsAV], by simp [a22], by simp [a23], by simp [rulesAV], by simp [rulesAV], 0, T, s, by simp, by omega, by omega, by simp [a6], hrep, by simp⟩
    clear hE a3 a6 a21 a22 a23 hrep
    rintro n C τ ⟨hE, a3, a21, a22, a23, a28, a29, j, T, s', a30, hj, rfl, a6, hrep, hs'⟩ J1 hJ1
    by_cases hjl : j < N.rules.length
    · have hxj : N.rules[j]? = some N.rules[j] := List.getElem?_eq_getElem hjl
      have w2 : IntKind.i64.wrap ((j : Int) + 1) = ((j + 1 : Nat) : Int) := by rw [wrap64 (by omega) (by omega)]; omega
      have hrk := hok.rg _ (List.getElem_mem hjl)
      have hst : ((N.rules.take (j + 1)).map (·.r)).foldl stepL s = stepL s' N.rules[j].r := by
        rw [List.take_add_one, hxj, List.map_append, List.foldl_append, ← hs']; rfl
      obtain ⟨x, hxe⟩ : ∃ x, N.rules[j] = x := ⟨_, rfl⟩
      rw [hxe] at hrk hst
      obtain ⟨g1, g2⟩ := hrep.step hrk
      have hadd := add_calls T x.r g1
      have hxr : AV.agg [.raw (.int .u32 x.r.lo), .raw (.int .u32 x.r.hi)] = rgAV x.r := rfl
      generalize (addT T x.r).1 = T' at hadd g2
      generalize (addT T x.r).2 = e' at hadd
      (try (first | (with_reducible refine dops_go ?_; simp [-cellOK, a3, a6, a21, a22, a23, a28, a29, a30, rulesAV, hjl, hxj, hxe, ru_cells, hxr, w2]) | (with_reducible refine OKv_go ?_; simp [-cellOK, a3, a6, a21, a22, a23, a28, a29, a30, rulesAV, hjl, hxj, hxe, ru_cells, hxr, w2]) | (with_reducible refine OKr_go ?_; simp [-cellOK, a3, a6, a21, a22, a23, a28, a29, a30, rulesAV, hjl, hxj, hxe, ru_cells, hxr, w2]))); repeat' (first | refine awp_seq ?_ | refine awp_block ?_ | (refine awp_skip ?_; try simp) | (refine awp_exit ?_; try simp) | (refine awp_ret ?_; try simp) | (refine retP_same (by simp) ?_; simp) | (refine retP_no (by simp) (by simp [noIds]) (by repeat (first | assumption | exact Ext.refl _ | refine ext_new' ?_ | refine Ext.setF ?_ (by first | assumption | (simp [new_nx', St.set, fresh_none]; done) | exact ext_fresh (by assumption)))) ?_; simp [-cellOK, a3, a6, a21, a22, a23, a28, a29, a30, rulesAV, hjl, hxj, hxe, ru_cells, hxr, w2, new_m, set_m, new_nx']) | (refine awp_reg ?_; simp [-cellOK, a3, a6, a21, a22, a23, a28, a29, a30, rulesAV, hjl, hxj, hxe, ru_cells, hxr, w2]) | (refine awp_drawT (fun _ => false) mixed (by decide +kernel) ?_; simp [-cellOK, a3, a6, a21, a22, a23, a28, a29, a30, rulesAV, hjl, hxj, hxe, ru_cells, hxr, w2]) | (refine guarded_split ?_ ?_ <;> (intro hg; simp only [hg]; simp [-cellOK, a3, a6, a21, a22, a23, a28, a29, a30, rulesAV, hjl, hxj, hxe, ru_cells, hxr, w2])) | (apply awp_cond_t; focus (simp [-cellOK, a3, a6, a21, a22, a23, a28, a29, a30, rulesAV, hjl, hxj, hxe, ru_cells, hxr, w2]; done)) | (apply awp_cond_f; focus (simp [-cellOK, a3, a6, a21, a22, a23, a28, a29, a30, rulesAV, hjl, hxj, hxe, ru_cells, hxr, w2]; done)) | (refine awp_cond ?_; simp [-cellOK, a3, a6, a21, a22, a23, a28, a29, a30, rulesAV, hjl, hxj, hxe, ru_cells, hxr, w2]; refine ⟨?_, ?_⟩ <;> intro hc) | (refine awp_drawT isCallO mixed (by decide +kernel) ?_; simp [-cellOK, a3, a6, a21, a22, a23, a28, a29, a30, rulesAV, hjl, hxj, hxe, ru_cells, hxr, w2]) | (refine PCalls.use (hadd) ?_; simp [-cellOK, a3, a6, a21, a22, a23, a28, a29, a30, rulesAV, hjl, hxj, hxe, ru_cells, hxr, w2]) | (refine Or.inl ⟨_, Or.inl (hadd), ?_⟩; simp [-cellOK, a3, a6, a21, a22, a23, a28, a29, a30, rulesAV, hjl, hxj, hxe, ru_cells, hxr, w2]) | fail)
      refine hJ1 (N.rules.length - (j + 1)) _ _ (by omega) ⟨(by repeat (first | assumption | exact Ext.refl _ | refine ext_new' ?_ | refine Ext.setF ?_ (by first | assumption | (simp [new_nx', St.set, fresh_none]; done) | exact ext_fresh (by assumption)))), by simp [a3], by simp [a21], by simp [a22], by simp [a23], by simp [a28], by simp [a29], j + 1, T', stepL s' x.r, by simp, by omega, rfl, by simp, g2, hst.symm⟩
    · have : j = N.rules.length := by omega
      subst this
      rw [List.take_length] at hs'
      (try (first | (with_reducible refine dops_go ?_; simp [-cellOK, a3, a6, a21, a22, a23, a28, a29, a30, w1]) | (with_reducible refine OKv_go ?_; simp [-cellOK, a3, a6, a21, a22, a23, a28, a29, a30, w1]) | (with_reducible refine OKr_go ?_; simp [-cellOK, a3, a6, a21, a22, a23, a28, a29, a30, w1]))); repeat' (first | refine awp_seq ?_ | refine awp_block ?_ | (refine awp_skip ?_; try simp) | (refine awp_exit ?_; try simp) | (refine awp_ret ?_; try simp) | (refine retP_same (by simp) ?_; simp) | (refine retP_no (by simp) (by simp [noIds]) (by repeat (first | assumption | exact Ext.refl _ | refine ext_new' ?_ | refine Ext.setF ?_ (by first | assumption | (simp [new_nx', St.set, fresh_none]; done) | exact ext_fresh (by assumption)))) ?_; simp [-cellOK, a3, a6, a21, a22, a23, a28, a29, a30, w1, new_m, set_m, new_nx']) | (refine awp_reg ?_; simp [-cellOK, a3, a6, a21, a22, a23, a28, a29, a30, w1]) | (refine awp_drawT (fun _ => false) mixed (by decide +kernel) ?_; simp [-cellOK, a3, a6, a21, a22, a23, a28, a29, a30, w1]) | (refine guarded_split ?_ ?_ <;> (intro hg; simp only [hg]; simp [-cellOK, a3, a6, a21, a22, a23, a28, a29, a30, w1])) | (apply awp_cond_t; focus (simp [-cellOK, a3, a6, a21, a22, a23, a28, a29, a30, w1]; done)) | (apply awp_cond_f; focus (simp [-cellOK, a3, a6, a21, a22, a23, a28, a29, a30, w1]; done)) | (refine awp_cond ?_; simp [-cellOK, a3, a6, a21, a22, a23, a28, a29, a30, w1]; refine ⟨?_, ?_⟩ <;> intro hc) | (refine awp_drawT isCallO mixed (by decide +kernel) ?_; simp [-cellOK, a3, a6, a21, a22, a23, a28, a29, a30, w1]) | fail)
      refine hI1 (l.length - (i + 1)) _ _ (by omega) ⟨hE, by simp [a3], by simp [a21], by simp [a22], i + 1, T, s', by simp, by omega, rfl, by simp [a6], hrep, ?_⟩
      rw [hsum, List.foldl_append, ← hs, hs']
  · have : i = l.length := by omega
    subst this
    rw [List.take_length] at hs
    have hL : heldL (rgsOf (l.map (·.1))) = s.getD [] := by rw [hs]; rfl
    obtain ⟨hrp, hsl⟩ := hrep.get
    unfold cutP
    rw [if_neg q0, hL]
    clear hs hL hI1 hrep
    generalize s.getD [] = L at hrp hsl ⊢
    obtain ⟨r0, r1, r2, r3⟩ := hr
    have hcc := cutsL_cuts L
    have hcl : (cutsL L).length ≤ 1 + 2 * L.length := by
      have := nodup_le (m := 0 :: endsL L) (hcc.srt.imp fun h => by omega) fun x hx => by
        rw [List.mem_cons]; simp only [endsL, List.mem_flatMap]; exact (hcc.mem x).1 hx
      have := endsL_len L
      simp only [List.length_cons] at *
      omega
    have hbz : (T.getD newTab).b.sz < 2 ^ 40 := by rw [rep_len hrp]; omega
    have k1 := hcc.pos (a := r.lo) r0
    have k2 := hcc.pos (a := r.hi) r2
    obtain ⟨p, hp⟩ : ∃ p, (cutsL L).countP (fun y => decide (y ≤ r.lo)) = p + 1 := ⟨_, (Nat.succ_pred_eq_of_pos k1).symm⟩
    obtain ⟨q, hq⟩ : ∃ p, (cutsL L).countP (fun y => decide (y ≤ r.hi)) = p + 1 := ⟨_, (Nat.succ_pred_eq_of_pos k2).symm⟩
    obtain ⟨hpq, hqA, hcut⟩ := cut_by_place hcc ⟨r0, r1, r2, r3⟩ (by omega) hp hq
    have ho1 := tabOf_calls T r.lo r0 r1 hbz
    have ho2 := tabOf_calls T r.hi r2 r3 hbz
    rw [rep_of hrp, hp, show (((p + 1 : Nat) : Int) - 1) = (p : Int) by omega] at ho1
    rw [rep_of hrp, hq, show (((q + 1 : Nat) : Int) - 1) = (q : Int) by omega] at ho2
    rw [hcut]
    have hA := atomsC_len (cutsL L)
    have hat := fun i => rep_atom hrp i
    generalize atomsC (cutsL L) = Al at *
    generalize cutsL L = c at *
    obtain ⟨G, hG⟩ : ∃ G : Nat → Rg, G = fun k => ⟨max (Al.getD (p + k) ⟨0, 0⟩).lo r.lo, min (Al.getD (p + k) ⟨0, 0⟩).hi r.hi⟩ := ⟨_, rfl⟩
    rw [← hG]
    (try (first | (with_reducible refine dops_go ?_; simp [-cellOK, a3, a6, a21, a22, a23]) | (with_reducible refine OKv_go ?_; simp [-cellOK, a3, a6, a21, a22, a23]) | (with_reducible refine OKr_go ?_; simp [-cellOK, a3, a6, a21, a22, a23]))); repeat' (first | refine awp_seq ?_ | refine awp_block ?_ | (refine awp_skip ?_; try simp) | (refine awp_exit ?_; try simp) | (refine awp_ret ?_; try simp) | (refine retP_same (by simp) ?_; simp) | (refine retP_no (by simp) (by simp [noIds]) (by repeat (first | assumption | exact Ext.refl _ | refine ext_new' ?_ | refine Ext.setF ?_ (by first | assumption | (simp [new_nx', St.set, fresh_none]; done) | exact ext_fresh (by assumption)))) ?_; simp [-cellOK, a3, a6, a21, a22, a23, new_m, set_m, new_nx']) | (refine awp_reg ?_; simp [-cellOK, a3, a6, a21, a22, a23]) | (refine awp_drawT (fun _ => false) mixed (by decide +kernel) ?_; simp [-cellOK, a3, a6, a21, a22, a23]) | (refine guarded_split ?_ ?_ <;> (intro hg; simp only [hg]; simp [-cellOK, a3, a6, a21, a22, a23])) | (apply awp_cond_t; focus (simp [-cellOK, a3, a6, a21, a22, a23]; done)) | (apply awp_cond_f; focus (simp [-cellOK, a3, a6, a21, a22, a23]; done)) | (refine awp_cond ?_; simp [-cellOK, a3, a6, a21, a22, a23]; refine ⟨?_, ?_⟩ <;> intro hc) | (refine awp_drawT isCallO mixed (by decide +kernel) ?_; simp [-cellOK, a3, a6, a21, a22, a23]) | (refine PCalls.use (ho1) ?_; simp [-cellOK, a3, a6, a21, a22, a23]) | (refine Or.inl ⟨_, Or.inl (ho1), ?_⟩; simp [-cellOK, a3, a6, a21, a22, a23]) | fail)
    refine awp_loopH (fun n B ρ => Ext σ ρ ∧ B 3 = .pp [.raw (.int .u32 r.lo), .raw (.int .u32 r.hi)] 0 ∧ B 6 = tabO T ∧ ∃ (j : Nat) (k : Int) (v : AV), B 12 = .raw (.int .i64 k) ∧ k = (p + j : Nat) ∧ j ≤ q + 1 - p ∧ n = q + 1 - p - j ∧ B 11 = v ∧ OwnL σ ρ 2 v (((List.range j).map G).map rgAV)) (q + 1 - p) ?_ ?_
    · exact ⟨hE, by simp [a3], by simp [a6], 0, p, .sl 0 [] true, by simp, by omega, by omega, by omega, by simp, .inl ⟨by simp, rfl⟩⟩
    clear hE a3 a6 a21 a22 a23
    rintro n B ρ ⟨hE, a3, a6, j, k, v, a12, hk, hj, rfl, a11, hO⟩ I1 hI1
    by_cases hjl : j < q + 1 - p
    · have hxa : Al[p + j]? = some Al[p + j] := List.getElem?_eq_getElem (by omega)
      have w1 : IntKind.i64.wrap (k + 1) = k + 1 := wrap64 (by omega) (by omega)
      have hac := atom_calls T k hbz
      rw [hat, if_pos (by omega), show k.toNat = p + j by omega, hxa] at hac
      have hGj : G j = ⟨max Al[p + j].lo r.lo, min Al[p + j].hi r.hi⟩ := by
        rw [hG]; simp only [List.getD_eq_getElem?_getD, hxa, Option.getD_some]
      simp only [Option.getD_some, Option.isSome_some] at hac
      generalize Al[p + j] = a at hac hGj
      have m1 : (if a.lo < r.lo then r.lo else a.lo) = (G j).lo := by rw [hGj]; simp only []; rw [Int.max_def]; split <;> split <;> omega
      have m2 : (if r.hi < a.hi then r.hi else a.hi) = (G j).hi := by rw [hGj]; simp only []; rw [Int.min_def]; split <;> split <;> omega
      have hle : k ≤ (q : Int) := by omega
      have hrq : ∀ x y : Int, setPart (rgAV ⟨0, 0⟩) 0 [.raw (.int .u32 x), .raw (.int .u32 y)] = rgAV ⟨x, y⟩ := fun _ _ => rfl
      (try (first | (with_reducible refine dops_go ?_; simp [-cellOK, a3, a6, a11, a12, hle, rg_cells, m1, m2, hrf, hrq, w1, -opAppend]) | (with_reducible refine OKv_go ?_; simp [-cellOK, a3, a6, a11, a12, hle, rg_cells, m1, m2, hrf, hrq, w1, -opAppend]) | (with_reducible refine OKr_go ?_; simp [-cellOK, a3, a6, a11, a12, hle, rg_cells, m1, m2, hrf, hrq, w1, -opAppend]))); repeat' (first | refine awp_seq ?_ | refine awp_block ?_ | (refine awp_skip ?_; try simp) | (refine awp_exit ?_; try simp) | (refine awp_ret ?_; try simp) | (refine retP_same (by simp) ?_; simp) | (refine retP_no (by simp) (by simp [noIds]) (by repeat (first | assumption | exact Ext.refl _ | refine ext_new' ?_ | refine Ext.setF ?_ (by first | assumption | (simp [new_nx', St.set, fresh_none]; done) | exact ext_fresh (by assumption)))) ?_; simp [-cellOK, a3, a6, a11, a12, hle, rg_cells, m1, m2, hrf, hrq, w1, -opAppend, new_m, set_m, new_nx']) | (refine awp_reg ?_; simp [-cellOK, a3, a6, a11, a12, hle, rg_cells, m1, m2, hrf, hrq, w1, -opAppend]) | (refine awp_drawT (fun _ => false) mixed (by decide +kernel) ?_; simp [-cellOK, a3, a6, a11, a12, hle, rg_cells, m1, m2, hrf, hrq, w1, -opAppend]) | (refine guarded_split ?_ ?_ <;> (intro hg; simp only [hg]; simp [-cellOK, a3, a6, a11, a12, hle, rg_cells, m1, m2, hrf, hrq, w1, -opAppend])) | (apply awp_cond_t; focus (simp [-cellOK, a3, a6, a11, a12, hle, rg_cells, m1, m2, hrf, hrq, w1, -opAppend]; done)) | (apply awp_cond_f; focus (simp [-cellOK, a3, a6, a11, a12, hle, rg_cells, m1, m2, hrf, hrq, w1, -opAppend]; done)) | (refine awp_cond ?_; simp [-cellOK, a3, a6, a11, a12, hle, rg_cells, m1, m2, hrf, hrq, w1, -opAppend]; refine ⟨?_, ?_⟩ <;> intro hc) | (refine awp_drawT isCallO mixed (by decide +kernel) ?_; simp [-cellOK, a3, a6, a11, a12, hle, rg_cells, m1, m2, hrf, hrq, w1, -opAppend]) | (refine PCalls.use (ho2) ?_; simp [-cellOK, a3, a6, a11, a12, hle, rg_cells, m1, m2, hrf, hrq, w1, -opAppend]) | (refine Or.inl ⟨_, Or.inl (ho2), ?_⟩; simp [-cellOK, a3, a6, a11, a12, hle, rg_cells, m1, m2, hrf, hrq, w1, -opAppend]) | (refine PCalls.use (hac) ?_; simp [-cellOK, a3, a6, a11, a12, hle, rg_cells, m1, m2, hrf, hrq, w1, -opAppend]) | (refine Or.inl ⟨_, Or.inl (hac), ?_⟩; simp [-cellOK, a3, a6, a11, a12, hle, rg_cells, m1, m2, hrf, hrq, w1, -opAppend]) | fail)
      refine okr_append slt92 (σ0 := σ) (hO.ext (by repeat (first | assumption | exact Ext.refl _ | refine ext_new' ?_ | refine Ext.setF ?_ (by first | assumption | (simp [new_nx', St.set, fresh_none]; done) | exact ext_fresh (by assumption))))) (by repeat (first | assumption | exact Ext.refl _ | refine ext_new' ?_ | refine Ext.setF ?_ (by first | assumption | (simp [new_nx', St.set, fresh_none]; done) | exact ext_fresh (by assumption)))) (ys := [rgAV ⟨(G j).lo, (G j).hi⟩]) (by simp [new_m, new_nx']) (.inr rfl) (by simp [rg_cells]) (by simp; omega) ?_
      intro v' τ' hO' hE' _ _
      (try (first | (with_reducible refine dops_go ?_; simp [-cellOK, a3, a6, a12, w1]) | (with_reducible refine OKv_go ?_; simp [-cellOK, a3, a6, a12, w1]) | (with_reducible refine OKr_go ?_; simp [-cellOK, a3, a6, a12, w1]))); repeat' (first | refine awp_seq ?_ | refine awp_block ?_ | (refine awp_skip ?_; try simp) | (refine awp_exit ?_; try simp) | (refine awp_ret ?_; try simp) | (refine retP_same (by simp) ?_; simp) | (refine retP_no (by simp) (by simp [noIds]) (by repeat (first | assumption | exact Ext.refl _ | refine ext_new' ?_ | refine Ext.setF ?_ (by first | assumption | (simp [new_nx', St.set, fresh_none]; done) | exact ext_fresh (by assumption)))) ?_; simp [-cellOK, a3, a6, a12, w1, new_m, set_m, new_nx']) | (refine awp_reg ?_; simp [-cellOK, a3, a6, a12, w1]) | (refine awp_drawT (fun _ => false) mixed (by decide +kernel) ?_; simp [-cellOK, a3, a6, a12, w1]) | (refine guarded_split ?_ ?_ <;> (intro hg; simp only [hg]; simp [-cellOK, a3, a6, a12, w1])) | (apply awp_cond_t; focus (simp [-cellOK, a3, a6, a12, w1]; done)) | (apply awp_cond_f; focus (simp [-cellOK, a3, a6, a12, w1]; done)) | (refine awp_cond ?_; simp [-cellOK, a3, a6, a12, w1]; refine ⟨?_, ?_⟩ <;> intro hc) | (refine awp_drawT isCallO mixed (by decide +kernel) ?_; simp [-cellOK, a3, a6, a12, w1]) | fail)
      refine hI1 (q + 1 - p - (j + 1)) _ _ (by omega) ⟨hE', by simp [a3], by simp [a6], j + 1, k + 1, v', by simp, by omega, by omega, rfl, by simp, ?_⟩
      rw [List.range_succ, List.map_append, List.map_append]
      exact hO'
    · have hje : j = q + 1 - p := by omega
      subst hje
      have hle : ¬ k ≤ (q : Int) := by omega
      (try (first | (with_reducible refine dops_go ?_; simp [-cellOK, a3, a6, a11, a12, hle]) | (with_reducible refine OKv_go ?_; simp [-cellOK, a3, a6, a11, a12, hle]) | (with_reducible refine OKr_go ?_; simp [-cellOK, a3, a6, a11, a12, hle]))); repeat' (first | refine awp_seq ?_ | refine awp_block ?_ | (refine awp_skip ?_; try simp) | (refine awp_exit ?_; try simp) | (refine awp_ret ?_; try simp) | (refine awp_reg ?_; simp [-cellOK, a3, a6, a11, a12, hle]) | (refine awp_drawT (fun _ => false) mixed (by decide +kernel) ?_; simp [-cellOK, a3, a6, a11, a12, hle]) | (refine guarded_split ?_ ?_ <;> (intro hg; simp only [hg]; simp [-cellOK, a3, a6, a11, a12, hle])) | (apply awp_cond_t; focus (simp [-cellOK, a3, a6, a11, a12, hle]; done)) | (apply awp_cond_f; focus (simp [-cellOK, a3, a6, a11, a12, hle]; done)) | (refine awp_cond ?_; simp [-cellOK, a3, a6, a11, a12, hle]; refine ⟨?_, ?_⟩ <;> intro hc) | (refine awp_drawT isCallO mixed (by decide +kernel) ?_; simp [-cellOK, a3, a6, a11, a12, hle]) | (refine PCalls.use (ho2) ?_; simp [-cellOK, a3, a6, a11, a12, hle]) | (refine Or.inl ⟨_, Or.inl (ho2), ?_⟩; simp [-cellOK, a3, a6, a11, a12, hle]) | fail)
      exact retP_ownT (v := v) (u := .int .i64 0) (.inr rfl) (by simp) hO hE
end Go.Proofs.Ytanimmdlgmkmkaa.Av


/- Networks: fate.devices, and its body. -/
namespace Go.Proofs.Ytanimmdlgmkmkaa.Av
open Go
set_option linter.unusedSimpArgs false
set_option linter.unusedVariables false
set_option maxRecDepth 100000
set_option maxHeartbeats 4000000
set_option pp.maxSteps 600

def ndAV (f : Int) (p : Pt) : AV := .agg [.raw (.int .i64 f), .raw (.int .i64 p.dev), .raw (.int .i64 p.port)]
theorem nd_cells (f : Int) (p : Pt) : (ndAV f p).cells = [.raw (.int .i64 f), .raw (.int .i64 p.dev), .raw (.int .i64 p.port)] := rfl
theorem pt_cells (q : Pt) : (ptAV q).cells = [.raw (.int .i64 q.dev), .raw (.int .i64 q.port)] := rfl
theorem pt_put (x y : Int) : setPart (AV.agg [.raw (.int .i64 0), .raw (.int .i64 0)]) 0 [.raw (.int .i64 x), .raw (.int .i64 y)] = ptAV ⟨x, y⟩ := rfl
theorem pt_put2 (q : Pt) (x y : Int) : setPart (ptAV q) 0 [.raw (.int .i64 x), .raw (.int .i64 y)] = ptAV ⟨x, y⟩ := rfl
theorem nw_fold (n : Nw) (f : Fl) : AV.agg [intsAV n.t.ports f.p, linksAV n.t.links f.l, rulesAV n.rules f.r] = nwAV n f := rfl
theorem i_part (v w : Value) (off : Nat) : setPart (AV.raw v) off [AV.raw w] = .raw w := rfl
theorem devices_calls (N : Nw) (f : Fl) (d a : Int) (ie : Id) {σ : St} (hie : σ.m ie ≠ none) :
    ACalls Try.prog 41 [nwAV N f, .raw (.int .i64 d), .raw (.int .u32 a), .rp ie 0 0] σ fun r τ => ∃ i : Id, r = .fn (.func 69) [] [.rp i 0 0, .pp (nwAV N f).cells 0, .pp [.raw (.int .u32 a)] 0, .pp [.rp ie 0 0] 0] ∧ i.sz = 1 ∧ σ.m i = none ∧ τ.m i = some (.buf [.raw (.int .i64 d)]) ∧ Ext σ τ := by
  have ne : ∀ slot sz, ie ≠ ⟨slot, σ.nx slot, sz⟩ := fun slot sz e => hie (by rw [e]; exact fresh_none _ _ _)
  refine abody Try.func41 rfl (N := 10) rfl rfl (by simp) ?_
  repeat (refine awp_seq ?_)
  refine awp_reg ?_
  simp [-cellOK, nw_cells]
  refine awp_freeze ⟨4, σ.nx 4, 3⟩ ?_
  refine awp_freeze ⟨6, σ.nx 6, 1⟩ ?_
  refine awp_freeze ⟨7, σ.nx 7, 1⟩ ?_
  generalize hτ : St.del _ _ = τ
  generalize hA : (fun t => giveUp _ _ _) = A
  have a4 : A 4 = .pp (nwAV N f).cells 0 := by rw [← hA, ← hτ]; simp [giveUp, St.new, St.del, nw_cells]
  have a5 : A 5 = .rp ⟨5, σ.nx 5, 1⟩ 0 0 := by rw [← hA, ← hτ]; simp [giveUp, St.new, St.del, nw_cells]
  have a6 : A 6 = .pp [.raw (.int .u32 a)] 0 := by rw [← hA, ← hτ]; simp [giveUp, St.new, St.del, nw_cells]
  have a7 : A 7 = .pp [.rp ie 0 0] 0 := by rw [← hA, ← hτ]; simp [giveUp, St.new, St.del, nw_cells, ne]
  have hm : τ.m ⟨5, σ.nx 5, 1⟩ = some (.buf [.raw (.int .i64 d)]) := by rw [← hτ]; simp [St.new, St.del]
  have hE : Ext σ τ := by
    rw [← hτ]
    refine ⟨fun i o h => ?_, fun s => ?_⟩
    · have q1 : i ≠ ⟨4, σ.nx 4, 3⟩ := fun e => by rw [e, fresh_none] at h; cases h
      have q2 : i ≠ ⟨5, σ.nx 5, 1⟩ := fun e => by rw [e, fresh_none] at h; cases h
      have q3 : i ≠ ⟨6, σ.nx 6, 1⟩ := fun e => by rw [e, fresh_none] at h; cases h
      have q4 : i ≠ ⟨7, σ.nx 7, 1⟩ := fun e => by rw [e, fresh_none] at h; cases h
      simp [St.del, St.new, q1, q2, q3, q4, h]
    · simp only [St.del, St.new]
      repeat' split
      all_goals omega
  clear hτ hA
  (try (first | (with_reducible refine dops_go ?_; simp [-cellOK, a4, a5, a6, a7]) | (with_reducible refine OKv_go ?_; simp [-cellOK, a4, a5, a6, a7]) | (with_reducible refine OKr_go ?_; simp [-cellOK, a4, a5, a6, a7]))); repeat' (first | refine awp_seq ?_ | refine awp_block ?_ | (refine awp_skip ?_; try simp) | (refine awp_exit ?_; try simp) | (refine awp_ret ?_; try simp) | (refine awp_reg ?_; simp [-cellOK, a4, a5, a6, a7]) | (refine awp_drawT (fun _ => false) mixed (by decide +kernel) ?_; simp [-cellOK, a4, a5, a6, a7]) | (refine guarded_split ?_ ?_ <;> (intro hg; simp only [hg]; simp [-cellOK, a4, a5, a6, a7])) | (apply awp_cond_t; focus (simp [-cellOK, a4, a5, a6, a7]; done)) | (apply awp_cond_f; focus (simp [-cellOK, a4, a5, a6, a7]; done)) | (refine awp_cond ?_; simp [-cellOK, a4, a5, a6, a7]; refine ⟨?_, ?_⟩ <;> intro hc) | (refine awp_drawT isCallO mixed (by decide +kernel) ?_; simp [-cellOK, a4, a5, a6, a7]) | fail)
  exact retK_of (x := .fn (.func 69) [] [.rp ⟨5, σ.nx 5, 1⟩ 0 0, .pp (nwAV N f).cells 0, .pp [.raw (.int .u32 a)] 0, .pp [.rp ie 0 0] 0]) (.inr rfl) (by simp) ⟨_, rfl, rfl, fresh_none _ _ _, hm, hE⟩

/-- What must hold behind a yield. -/
def DevPost (N : Nw) (a : Int) (iat ie : Id) (Q : Int → List Int → St → Prop) (F : St → Prop) (d : Int) (p : List Int) (r : AV) (ρ : St) : Prop :=
  (r = .raw (.bool true) ∧ ρ.m iat = some (.buf [.raw (.int .i64 d)]) ∧ ρ.m ie = some (.buf [ndAV 4 ⟨0, 0⟩]) ∧ ((stepF N d a).1 ≠ 4 → ∀ π, Ext ρ π → F (π.set ie (.buf [ndAV (stepF N d a).1 (stepF N d a).2]))) ∧
    ((stepF N d a).1 = 4 → ∀ π, Ext ρ π → Q (nextDev N (stepF N d a).2) (p ++ [d]) (π.set iat (.buf [.raw (.int .i64 (nextDev N (stepF N d a).2))])))) ∨ (r = .raw (.bool false) ∧ F ρ)
/-- The devices on a way, yielded one by one. -/
theorem devs_yield (N : Nw) (f : Fl) (a : Int) (iat ie : Id) (hN : NwOK N) (M : Nat) (Q : Int → List Int → St → Prop) (F : St → Prop) (b : Nat)
    (hlen : ∀ d p τ, Q d p τ → p.length ≤ M)
    (hQE : ∀ d p τ ρ, Q d p τ → Ext τ ρ → Q d p ρ)
    (hFE : ∀ τ ρ, F τ → Ext τ ρ → F ρ)
    (hat : ∀ d p τ, Q d p τ → τ.m iat = some (.buf [.raw (.int .i64 d)]))
    (hy : ∀ d p τ, Q d p τ → YK Try.prog b [.raw (.int .i64 d)] τ (DevPost N a iat ie Q F d p))
    {σ : St} {d0 : Int} (hQ : Q d0 [] σ) :
    ACalls Try.prog 69 (.fn (.yield b) [] [] :: [.rp iat 0 0, .pp (nwAV N f).cells 0, .pp [.raw (.int .u32 a)] 0, .pp [.rp ie 0 0] 0]) σ fun _ τ => F τ := by
  obtain ⟨hr0, hp0, hl0, hu0, hi0⟩ := hN
  refine abody Try.func69 rfl (N := 36) rfl rfl (by simp) ?_
  (try (first | (with_reducible refine dops_go ?_; simp [-cellOK, nw_cells]) | (with_reducible refine OKv_go ?_; simp [-cellOK, nw_cells]) | (with_reducible refine OKr_go ?_; simp [-cellOK, nw_cells]))); repeat' (first | refine awp_seq ?_ | refine awp_block ?_ | (refine awp_skip ?_; try simp) | (refine awp_exit ?_; try simp) | (refine awp_ret ?_; try simp) | (refine retP_same (by simp) ?_; simp) | (refine retP_no (by simp) (by simp [noIds]) (by repeat (first | assumption | exact Ext.refl _ | refine ext_new' ?_ | refine Ext.setF ?_ (by first | assumption | (simp [new_nx', St.set, fresh_none]; done) | exact ext_fresh (by assumption)))) ?_; simp [-cellOK, nw_cells, new_m, set_m, new_nx']) | (refine awp_reg ?_; simp [-cellOK, nw_cells]) | (refine awp_drawT (fun _ => false) mixed (by decide +kernel) ?_; simp [-cellOK, nw_cells]) | (refine guarded_split ?_ ?_ <;> (intro hg; simp only [hg]; simp [-cellOK, nw_cells])) | (apply awp_cond_t; focus (simp [-cellOK, nw_cells]; done)) | (apply awp_cond_f; focus (simp [-cellOK, nw_cells]; done)) | (refine awp_cond ?_; simp [-cellOK, nw_cells]; refine ⟨?_, ?_⟩ <;> intro hc) | (refine awp_drawT isCallO mixed (by decide +kernel) ?_; simp [-cellOK, nw_cells]) | fail)
  refine awp_loopH (fun n A τ => A 0 = .fn (.yield b) [] [] ∧ A 1 = .rp iat 0 0 ∧ A 2 = .pp (nwAV N f).cells 0 ∧ A 3 = .pp [.raw (.int .u32 a)] 0 ∧ A 4 = .pp [.rp ie 0 0] 0 ∧ ∃ d p, Q d p τ ∧ n = M + 1 - p.length) (M + 1) ?_ ?_
  · exact ⟨by simp, by simp, by simp [nw_cells], by simp, by simp, d0, [], hQ, by simp⟩
  rintro n A τ ⟨a0, a1, a2, a3, a4, d, p, hq, rfl⟩ I1 hI1
  have ht := hat d p τ hq
  have hl := hlen d p τ hq
  (try (first | (with_reducible refine dops_go ?_; simp [-cellOK, a0, a1, a2, a3, a4, ht]) | (with_reducible refine OKv_go ?_; simp [-cellOK, a0, a1, a2, a3, a4, ht]) | (with_reducible refine OKr_go ?_; simp [-cellOK, a0, a1, a2, a3, a4, ht]))); repeat' (first | refine awp_seq ?_ | refine awp_block ?_ | (refine awp_skip ?_; try simp) | (refine awp_exit ?_; try simp) | (refine awp_ret ?_; try simp) | (refine retP_same (by simp) ?_; simp) | (refine retP_no (by simp) (by simp [noIds]) (by repeat (first | assumption | exact Ext.refl _ | refine ext_new' ?_ | refine Ext.setF ?_ (by first | assumption | (simp [new_nx', St.set, fresh_none]; done) | exact ext_fresh (by assumption)))) ?_; simp [-cellOK, a0, a1, a2, a3, a4, ht, new_m, set_m, new_nx']) | (refine awp_reg ?_; simp [-cellOK, a0, a1, a2, a3, a4, ht]) | (refine awp_drawT (fun _ => false) mixed (by decide +kernel) ?_; simp [-cellOK, a0, a1, a2, a3, a4, ht]) | (refine guarded_split ?_ ?_ <;> (intro hg; simp only [hg]; simp [-cellOK, a0, a1, a2, a3, a4, ht])) | (apply awp_cond_t; focus (simp [-cellOK, a0, a1, a2, a3, a4, ht]; done)) | (apply awp_cond_f; focus (simp [-cellOK, a0, a1, a2, a3, a4, ht]; done)) | (refine awp_cond ?_; simp [-cellOK, a0, a1, a2, a3, a4, ht]; refine ⟨?_, ?_⟩ <;> intro hc) | (refine awp_drawT isCallO mixed (by decide +kernel) ?_; simp [-cellOK, a0, a1, a2, a3, a4, ht]) | fail)
  refine YK.mono ?_ (hy d p τ hq)
  rintro r ρ (⟨rfl, hρ, hρe, h1, h2⟩ | ⟨rfl, hF⟩)
  · have hs := step_calls N f d a hl0 hu0
    have hn := next_calls N.t f (stepF N d a).2 hl0
    have hnd : ((nextM N.t (stepF N d a).2).getD ⟨0, 0⟩).dev = nextDev N (stepF N d a).2 := rfl
    by_cases q : (stepF N d a).1 = 4
    · have h2 := h2 q
      rw [q] at hs
      generalize (stepF N d a).2 = P at *
      obtain ⟨R, hR⟩ : ∃ R, (nextM N.t P).getD ⟨0, 0⟩ = R := ⟨_, rfl⟩
      rw [hR] at hn hnd
      have htf : AV.agg [intsAV N.t.ports f.p, linksAV N.t.links f.l] = tpAV N.t f := rfl
      (try (first | (with_reducible refine dops_go ?_; simp [-cellOK, a0, a1, a2, a3, a4, hρ, nw_cells, nw_fold, pt_cells, pt_put, pt_put2, ruPort_fold, pt_fold, htf, i_part, hnd]) | (with_reducible refine OKv_go ?_; simp [-cellOK, a0, a1, a2, a3, a4, hρ, nw_cells, nw_fold, pt_cells, pt_put, pt_put2, ruPort_fold, pt_fold, htf, i_part, hnd]) | (with_reducible refine OKr_go ?_; simp [-cellOK, a0, a1, a2, a3, a4, hρ, nw_cells, nw_fold, pt_cells, pt_put, pt_put2, ruPort_fold, pt_fold, htf, i_part, hnd]))); repeat' (first | refine awp_seq ?_ | refine awp_block ?_ | (refine awp_skip ?_; try simp) | (refine awp_exit ?_; try simp) | (refine awp_ret ?_; try simp) | (refine retP_same (by simp) ?_; simp) | (refine retP_no (by simp) (by simp [noIds]) (by repeat (first | assumption | exact Ext.refl _ | refine ext_new' ?_ | refine Ext.setF ?_ (by first | assumption | (simp [new_nx', St.set, fresh_none]; done) | exact ext_fresh (by assumption)))) ?_; simp [-cellOK, a0, a1, a2, a3, a4, hρ, nw_cells, nw_fold, pt_cells, pt_put, pt_put2, ruPort_fold, pt_fold, htf, i_part, hnd, new_m, set_m, new_nx']) | (refine awp_reg ?_; simp [-cellOK, a0, a1, a2, a3, a4, hρ, nw_cells, nw_fold, pt_cells, pt_put, pt_put2, ruPort_fold, pt_fold, htf, i_part, hnd]) | (refine awp_drawT (fun _ => false) mixed (by decide +kernel) ?_; simp [-cellOK, a0, a1, a2, a3, a4, hρ, nw_cells, nw_fold, pt_cells, pt_put, pt_put2, ruPort_fold, pt_fold, htf, i_part, hnd]) | (refine guarded_split ?_ ?_ <;> (intro hg; simp only [hg]; simp [-cellOK, a0, a1, a2, a3, a4, hρ, nw_cells, nw_fold, pt_cells, pt_put, pt_put2, ruPort_fold, pt_fold, htf, i_part, hnd])) | (apply awp_cond_t; focus (simp [-cellOK, a0, a1, a2, a3, a4, hρ, nw_cells, nw_fold, pt_cells, pt_put, pt_put2, ruPort_fold, pt_fold, htf, i_part, hnd]; done)) | (apply awp_cond_f; focus (simp [-cellOK, a0, a1, a2, a3, a4, hρ, nw_cells, nw_fold, pt_cells, pt_put, pt_put2, ruPort_fold, pt_fold, htf, i_part, hnd]; done)) | (refine awp_cond ?_; simp [-cellOK, a0, a1, a2, a3, a4, hρ, nw_cells, nw_fold, pt_cells, pt_put, pt_put2, ruPort_fold, pt_fold, htf, i_part, hnd]; refine ⟨?_, ?_⟩ <;> intro hc) | (refine awp_drawT isCallO mixed (by decide +kernel) ?_; simp [-cellOK, a0, a1, a2, a3, a4, hρ, nw_cells, nw_fold, pt_cells, pt_put, pt_put2, ruPort_fold, pt_fold, htf, i_part, hnd]) | (refine PCalls.use (hs) ?_; simp [-cellOK, a0, a1, a2, a3, a4, hρ, nw_cells, nw_fold, pt_cells, pt_put, pt_put2, ruPort_fold, pt_fold, htf, i_part, hnd]) | (refine Or.inl ⟨_, Or.inl (hs), ?_⟩; simp [-cellOK, a0, a1, a2, a3, a4, hρ, nw_cells, nw_fold, pt_cells, pt_put, pt_put2, ruPort_fold, pt_fold, htf, i_part, hnd]) | (refine PCalls.use (hn) ?_; simp [-cellOK, a0, a1, a2, a3, a4, hρ, nw_cells, nw_fold, pt_cells, pt_put, pt_put2, ruPort_fold, pt_fold, htf, i_part, hnd]) | (refine Or.inl ⟨_, Or.inl (hn), ?_⟩; simp [-cellOK, a0, a1, a2, a3, a4, hρ, nw_cells, nw_fold, pt_cells, pt_put, pt_put2, ruPort_fold, pt_fold, htf, i_part, hnd]) | fail)
      refine hI1 (M + 1 - (p ++ [d]).length) _ _ (by simp; omega) ⟨by simp [a0], by simp [a1], by simp [a2, nw_cells], by simp [a3], by simp [a4], _, p ++ [d], h2 _ ?_, rfl⟩
      exact (by repeat (first | assumption | exact Ext.refl _ | refine ext_new' ?_ | refine Ext.setF ?_ (by first | assumption | (simp [new_nx', St.set, fresh_none]; done) | exact ext_fresh (by assumption))))
    · have h1 := h1 q
      generalize (stepF N d a).1 = s at *
      generalize (stepF N d a).2 = P at *
      have hndf : ∀ z : Int, AV.agg [.raw (.int .i64 z), .raw (.int .i64 P.dev), .raw (.int .i64 P.port)] = ndAV z P := fun _ => rfl
      have hnp : ∀ (z : Int) (q : Pt) (z' : Int) (q' : Pt), setPart (ndAV z q) 0 [.raw (.int .i64 z'), .raw (.int .i64 q'.dev), .raw (.int .i64 q'.port)] = ndAV z' q' := fun _ _ _ _ => rfl
      (try (first | (with_reducible refine dops_go ?_; simp [-cellOK, a0, a1, a2, a3, a4, hρ, hρe, nw_cells, nw_fold, pt_cells, pt_put, pt_put2, pt_fold, nd_cells, hndf, hnp, q]) | (with_reducible refine OKv_go ?_; simp [-cellOK, a0, a1, a2, a3, a4, hρ, hρe, nw_cells, nw_fold, pt_cells, pt_put, pt_put2, pt_fold, nd_cells, hndf, hnp, q]) | (with_reducible refine OKr_go ?_; simp [-cellOK, a0, a1, a2, a3, a4, hρ, hρe, nw_cells, nw_fold, pt_cells, pt_put, pt_put2, pt_fold, nd_cells, hndf, hnp, q]))); repeat' (first | refine awp_seq ?_ | refine awp_block ?_ | (refine awp_skip ?_; try simp) | (refine awp_exit ?_; try simp) | (refine awp_ret ?_; try simp) | (refine awp_reg ?_; simp [-cellOK, a0, a1, a2, a3, a4, hρ, hρe, nw_cells, nw_fold, pt_cells, pt_put, pt_put2, pt_fold, nd_cells, hndf, hnp, q]) | (refine awp_drawT (fun _ => false) mixed (by decide +kernel) ?_; simp [-cellOK, a0, a1, a2, a3, a4, hρ, hρe, nw_cells, nw_fold, pt_cells, pt_put, pt_put2, pt_fold, nd_cells, hndf, hnp, q]) | (refine guarded_split ?_ ?_ <;> (intro hg; simp only [hg]; simp [-cellOK, a0, a1, a2, a3, a4, hρ, hρe, nw_cells, nw_fold, pt_cells, pt_put, pt_put2, pt_fold, nd_cells, hndf, hnp, q])) | (apply awp_cond_t; focus (simp [-cellOK, a0, a1, a2, a3, a4, hρ, hρe, nw_cells, nw_fold, pt_cells, pt_put, pt_put2, pt_fold, nd_cells, hndf, hnp, q]; done)) | (apply awp_cond_f; focus (simp [-cellOK, a0, a1, a2, a3, a4, hρ, hρe, nw_cells, nw_fold, pt_cells, pt_put, pt_put2, pt_fold, nd_cells, hndf, hnp, q]; done)) | (refine awp_cond ?_; simp [-cellOK, a0, a1, a2, a3, a4, hρ, hρe, nw_cells, nw_fold, pt_cells, pt_put, pt_put2, pt_fold, nd_cells, hndf, hnp, q]; refine ⟨?_, ?_⟩ <;> intro hc) | (refine awp_drawT isCallO mixed (by decide +kernel) ?_; simp [-cellOK, a0, a1, a2, a3, a4, hρ, hρe, nw_cells, nw_fold, pt_cells, pt_put, pt_put2, pt_fold, nd_cells, hndf, hnp, q]) | (refine PCalls.use (hs) ?_; simp [-cellOK, a0, a1, a2, a3, a4, hρ, hρe, nw_cells, nw_fold, pt_cells, pt_put, pt_put2, pt_fold, nd_cells, hndf, hnp, q]) | (refine Or.inl ⟨_, Or.inl (hs), ?_⟩; simp [-cellOK, a0, a1, a2, a3, a4, hρ, hρe, nw_cells, nw_fold, pt_cells, pt_put, pt_put2, pt_fold, nd_cells, hndf, hnp, q]) | fail)
      exact retK_of (x := .tup []) (.inr rfl) (by simp) (h1 _ (by repeat (first | assumption | exact Ext.refl _ | refine ext_new' ?_ | refine Ext.setF ?_ (by first | assumption | (simp [new_nx', St.set, fresh_none]; done) | exact ext_fresh (by assumption)))))
  · (try (first | (with_reducible refine dops_go ?_; simp [-cellOK, a0, a1, a2, a3, a4]) | (with_reducible refine OKv_go ?_; simp [-cellOK, a0, a1, a2, a3, a4]) | (with_reducible refine OKr_go ?_; simp [-cellOK, a0, a1, a2, a3, a4]))); repeat' (first | refine awp_seq ?_ | refine awp_block ?_ | (refine awp_skip ?_; try simp) | (refine awp_exit ?_; try simp) | (refine awp_ret ?_; try simp) | (refine awp_reg ?_; simp [-cellOK, a0, a1, a2, a3, a4]) | (refine awp_drawT (fun _ => false) mixed (by decide +kernel) ?_; simp [-cellOK, a0, a1, a2, a3, a4]) | (refine guarded_split ?_ ?_ <;> (intro hg; simp only [hg]; simp [-cellOK, a0, a1, a2, a3, a4])) | (apply awp_cond_t; focus (simp [-cellOK, a0, a1, a2, a3, a4]; done)) | (apply awp_cond_f; focus (simp [-cellOK, a0, a1, a2, a3, a4]; done)) | (refine awp_cond ?_; simp [-cellOK, a0, a1, a2, a3, a4]; refine ⟨?_, ?_⟩ <;> intro hc) | (refine awp_drawT isCallO mixed (by decide +kernel) ?_; simp [-cellOK, a0, a1, a2, a3, a4]) | fail)
    exact retK_of (x := .tup []) (.inl rfl) (by simp) hF
end Go.Proofs.Ytanimmdlgmkmkaa.Av


/- Networks: fate.Trace. -/
namespace Go.Proofs.Ytanimmdlgmkmkaa.Av
open Go
set_option linter.unusedSimpArgs false
set_option linter.unusedVariables false
set_option maxRecDepth 100000
set_option maxHeartbeats 4000000
set_option pp.maxSteps 600

theorem OwnL.ne_sz {σ0 τ : St} {n : Nat} {v : AV} {es : List AV} (h : OwnL σ0 τ n v es) {i : Id} (hi : i.sz ≠ n) : ∀ k l, v ≠ .rs i k l := by
  rintro k l rfl
  rcases h with ⟨_, e⟩ | ⟨j, e, hj, _, _⟩
  · cases e
  · injection e with e; subst e; exact hi hj
theorem OwnL.set {σ0 τ : St} {n : Nat} {v : AV} {es : List AV} (h : OwnL σ0 τ n v es) {i : Id} {o : Ob} (hi : ∀ k l, v ≠ .rs i k l) : OwnL σ0 (τ.set i o) n v es := by
  rcases h with h | ⟨j, e, hj, hm, hn⟩
  · exact .inl h
  · exact .inr ⟨j, e, hj, by rw [set_other (fun e2 => hi 0 es.length (by rw [e, e2]))]; exact hm, hn⟩
theorem OwnL.del {σ0 τ : St} {n : Nat} {v : AV} {es : List AV} (h : OwnL σ0 τ n v es) {i : Id} (hi : ∀ k l, v ≠ .rs i k l) : OwnL σ0 (τ.del i) n v es := by
  rcases h with h | ⟨j, e, hj, hm, hn⟩
  · exact .inl h
  · exact .inr ⟨j, e, hj, by rw [del_other (fun e2 => hi 0 es.length (by rw [e, e2]))]; exact hm, hn⟩
/-- A track that was made, and a plain value, are handed back. -/
theorem retP_ownAT {P : Program} {A : Env} {σ σ0 : St} {fn : Func} {e : Exit} {n : Nat} {v : AV} {es : List AV} {u b c d : Value} (he : e = .normal ∨ e = .ret) (h : aresult P σ.m A fn.results = some (.tup [.agg [v, .raw b, .raw c, .raw d], .raw u])) (hO : OwnL σ0 σ n v es) (hE : Ext σ0 σ) :
    RetP P fn σ0 (.tup [.agg [.sl n es false, .raw b, .raw c, .raw d], .raw u]) e A σ := by
  refine retP_weak he hE h ?_
  rcases hO with ⟨rfl, rfl⟩ | ⟨j, rfl, hj, hmj, hn⟩
  · exact weaker_tup (weaker_agg weaker_sl)
  · have e1 : giveUps σ0.m σ.m (.tup [.agg [.rs j 0 es.length, .raw b, .raw c, .raw d], .raw u]) = .tup [.agg [.sl n es false, .raw b, .raw c, .raw d], .raw u] := by
      simp only [giveUps, List.map_cons, List.map_nil]
      rw [giveUp_rs_made hn hmj (by simp), hj]; simp [giveUp]
    rw [e1]; exact Weaker.refl _
/-- What a trace under way looks like. -/
structure TrS (σ ρ : St) (i6 i8 : Id) (v : AV) (p : List Int) : Prop where
  ext : Ext σ ρ
  m6 : ρ.m i6 = some (.buf [.agg [.sl 0 [] true, .raw (.int .i64 0), .raw (.int .i64 0), .raw (.int .i64 0)]])
  m8 : ρ.m i8 = some (.buf [.agg [v, .raw (.int .i64 0), .raw (.int .i64 0), .raw (.int .i64 0)]])
  own : OwnL σ ρ 1 v (p.map iAV)
theorem TrS.up {σ ρ π : St} {i6 i8 : Id} {v : AV} {p : List Int} (h : TrS σ ρ i6 i8 v p) (k : Ext ρ π) : TrS σ π i6 i8 v p := ⟨h.ext.trans k, k.m _ _ h.m6, k.m _ _ h.m8, h.own.ext k⟩
theorem TrS.put {σ ρ : St} {i6 i8 i : Id} {v : AV} {p : List Int} {o : Ob} (h : TrS σ ρ i6 i8 v p) (h6 : i6 ≠ i) (h8 : i8 ≠ i) (hv : ∀ k l, v ≠ .rs i k l) (h0 : σ.m i = none) : TrS σ (ρ.set i o) i6 i8 v p :=
  ⟨Ext.setF h.ext h0, by rw [set_other h6]; exact h.m6, by rw [set_other h8]; exact h.m8, h.own.set hv⟩
theorem TrS.del {σ ρ : St} {i6 i8 i : Id} {v : AV} {p : List Int} (h : TrS σ ρ i6 i8 v p) (h6 : i6 ≠ i) (h8 : i8 ≠ i) (hv : ∀ k l, v ≠ .rs i k l) (h0 : σ.m i = none) : TrS σ (ρ.del i) i6 i8 v p :=
  ⟨⟨fun j o hj => by rw [del_other (fun e => by rw [e, h0] at hj; cases hj)]; exact h.ext.m j o hj, h.ext.nx⟩, by rw [del_other h6]; exact h.m6, by rw [del_other h8]; exact h.m8, h.own.del hv⟩
def traceR (n : Nw) (d a : Int) : Tk × Int := if d < 0 ∨ n.t.ports.length ≤ d then (⟨[], 0, ⟨0, 0⟩⟩, 91) else (traceF n d a, 0)
theorem trace_calls (N : Nw) (f : Fl) (d a : Int) (hN : NwOK N) : PCalls Try.prog 15 [nwAV N f, .raw (.int .i64 d), .raw (.int .u32 a)] (.tup [tkAV (traceR N d a).1 false, .raw (.int .i64 (traceR N d a).2)]) := by
  have hip : ∀ K t b, (tkAV t b).ids K := fun K t b => by simp [tkAV]
  refine pbody Try.func15 rfl (N := 47) rfl rfl (by simp) (by simp [noIds, hip]) fun σ => ?_
  have hl := hN.links
  have f3 : σ.m ⟨3, σ.nx 3, 3⟩ = none := fresh_none _ _ _
  have f6 : σ.m ⟨6, σ.nx 6, 4⟩ = none := fresh_none _ _ _
  have f8 : σ.m ⟨8, σ.nx 8, 4⟩ = none := fresh_none _ _ _
  have f9 : σ.m ⟨9, σ.nx 9, 3⟩ = none := fresh_none _ _ _
  have hndf : ∀ x y z : Int, AV.agg [.raw (.int .i64 x), .raw (.int .i64 y), .raw (.int .i64 z)] = ndAV x ⟨y, z⟩ := fun _ _ _ => rfl
  have hndp : ∀ (x y z : Int) (q : Int) (p : Pt), setPart (ndAV q p) 0 [.raw (.int .i64 x), .raw (.int .i64 y), .raw (.int .i64 z)] = ndAV x ⟨y, z⟩ := fun _ _ _ _ _ => rfl
  by_cases q : d < 0 ∨ N.t.ports.length ≤ d
  · unfold traceR
    rw [if_pos q]
    have hw : Weaker (.tup [.agg [.sl 0 [] true, .raw (.int .i64 0), .raw (.int .i64 0), .raw (.int .i64 0)], .raw (.int .i64 91)]) (.tup [tkAV ⟨[], 0, ⟨0, 0⟩⟩ false, .raw (.int .i64 91)]) := weaker_tup (weaker_agg weaker_sl)
    have fin : ∀ {A : Env} {τ : St}, Ext σ τ → aresult Try.prog τ.m A Try.f15.results = some (.tup [.agg [.sl 0 [] true, .raw (.int .i64 0), .raw (.int .i64 0), .raw (.int .i64 0)], .raw (.int .i64 91)]) → RetP Try.prog Try.f15 σ (.tup [tkAV ⟨[], 0, ⟨0, 0⟩⟩ false, .raw (.int .i64 91)]) .ret A τ := fun hE h =>
      retP_weak (.inr rfl) hE h (by simpa [giveUps, giveUp] using hw)
    by_cases q1 : d < 0
    · (try (first | (with_reducible refine dops_go ?_; simp [-cellOK, nw_cells, q1]) | (with_reducible refine OKv_go ?_; simp [-cellOK, nw_cells, q1]) | (with_reducible refine OKr_go ?_; simp [-cellOK, nw_cells, q1]))); repeat' (first | refine awp_seq ?_ | refine awp_block ?_ | (refine awp_skip ?_; try simp) | (refine awp_exit ?_; try simp) | (refine awp_ret ?_; try simp) | (refine awp_reg ?_; simp [-cellOK, nw_cells, q1]) | (refine awp_drawT (fun _ => false) mixed (by decide +kernel) ?_; simp [-cellOK, nw_cells, q1]) | (refine guarded_split ?_ ?_ <;> (intro hg; simp only [hg]; simp [-cellOK, nw_cells, q1])) | (apply awp_cond_t; focus (simp [-cellOK, nw_cells, q1]; done)) | (apply awp_cond_f; focus (simp [-cellOK, nw_cells, q1]; done)) | (refine awp_cond ?_; simp [-cellOK, nw_cells, q1]; refine ⟨?_, ?_⟩ <;> intro hc) | (refine awp_drawT isCallO mixed (by decide +kernel) ?_; simp [-cellOK, nw_cells, q1]) | fail)
      exact fin (by repeat (first | assumption | exact Ext.refl _ | refine ext_new' ?_ | refine Ext.setF ?_ (by first | assumption | (simp [new_nx', St.set, fresh_none]; done) | exact ext_fresh (by assumption)))) (by simp [new_m, set_m, new_nx'])
    · have q2 : (N.t.ports.length : Int) ≤ d := by omega
      (try (first | (with_reducible refine dops_go ?_; simp [-cellOK, nw_cells, q1, q2, intsAV]) | (with_reducible refine OKv_go ?_; simp [-cellOK, nw_cells, q1, q2, intsAV]) | (with_reducible refine OKr_go ?_; simp [-cellOK, nw_cells, q1, q2, intsAV]))); repeat' (first | refine awp_seq ?_ | refine awp_block ?_ | (refine awp_skip ?_; try simp) | (refine awp_exit ?_; try simp) | (refine awp_ret ?_; try simp) | (refine awp_reg ?_; simp [-cellOK, nw_cells, q1, q2, intsAV]) | (refine awp_drawT (fun _ => false) mixed (by decide +kernel) ?_; simp [-cellOK, nw_cells, q1, q2, intsAV]) | (refine guarded_split ?_ ?_ <;> (intro hg; simp only [hg]; simp [-cellOK, nw_cells, q1, q2, intsAV])) | (apply awp_cond_t; focus (simp [-cellOK, nw_cells, q1, q2, intsAV]; done)) | (apply awp_cond_f; focus (simp [-cellOK, nw_cells, q1, q2, intsAV]; done)) | (refine awp_cond ?_; simp [-cellOK, nw_cells, q1, q2, intsAV]; refine ⟨?_, ?_⟩ <;> intro hc) | (refine awp_drawT isCallO mixed (by decide +kernel) ?_; simp [-cellOK, nw_cells, q1, q2, intsAV]) | fail)
      exact fin (by repeat (first | assumption | exact Ext.refl _ | refine ext_new' ?_ | refine Ext.setF ?_ (by first | assumption | (simp [new_nx', St.set, fresh_none]; done) | exact ext_fresh (by assumption)))) (by simp [new_m, set_m, new_nx'])
  have q1 : ¬ d < 0 := fun h => q (.inl h)
  have q2 : ¬ (N.t.ports.length : Int) ≤ d := fun h => q (.inr h)
  have hres : traceR N d a = (traceF N d a, 0) := by unfold traceR; rw [if_neg q]
  rw [hres]
  have hp : ∀ m, opLen Try.prog m 22 (intsAV N.t.ports f.p) = some (.raw (.int .i64 N.t.ports.length)) := fun m => by simp [intsAV]
  (try (first | (with_reducible refine dops_go ?_; simp [-cellOK, nw_cells, nw_fold, q1, q2, -opLen, hp, nd_cells, hndf, hndp, new_m, set_m, new_nx']) | (with_reducible refine OKv_go ?_; simp [-cellOK, nw_cells, nw_fold, q1, q2, -opLen, hp, nd_cells, hndf, hndp, new_m, set_m, new_nx']) | (with_reducible refine OKr_go ?_; simp [-cellOK, nw_cells, nw_fold, q1, q2, -opLen, hp, nd_cells, hndf, hndp, new_m, set_m, new_nx']))); repeat' (first | refine awp_seq ?_ | refine awp_block ?_ | (refine awp_skip ?_; try simp) | (refine awp_exit ?_; try simp) | (refine awp_ret ?_; try simp) | (refine retP_same (by simp) ?_; simp) | (refine retP_no (by simp) (by simp [noIds]) (by repeat (first | assumption | exact Ext.refl _ | refine ext_new' ?_ | refine Ext.setF ?_ (by first | assumption | (simp [new_nx', St.set, fresh_none]; done) | exact ext_fresh (by assumption)))) ?_; simp [-cellOK, nw_cells, nw_fold, q1, q2, -opLen, hp, nd_cells, hndf, hndp, new_m, set_m, new_nx', new_m, set_m, new_nx']) | (refine awp_reg ?_; simp [-cellOK, nw_cells, nw_fold, q1, q2, -opLen, hp, nd_cells, hndf, hndp, new_m, set_m, new_nx']) | (refine awp_drawT (fun _ => false) mixed (by decide +kernel) ?_; simp [-cellOK, nw_cells, nw_fold, q1, q2, -opLen, hp, nd_cells, hndf, hndp, new_m, set_m, new_nx']) | (refine guarded_split ?_ ?_ <;> (intro hg; simp only [hg]; simp [-cellOK, nw_cells, nw_fold, q1, q2, -opLen, hp, nd_cells, hndf, hndp, new_m, set_m, new_nx'])) | (apply awp_cond_t; focus (simp [-cellOK, nw_cells, nw_fold, q1, q2, -opLen, hp, nd_cells, hndf, hndp, new_m, set_m, new_nx']; done)) | (apply awp_cond_f; focus (simp [-cellOK, nw_cells, nw_fold, q1, q2, -opLen, hp, nd_cells, hndf, hndp, new_m, set_m, new_nx']; done)) | (refine awp_cond ?_; simp [-cellOK, nw_cells, nw_fold, q1, q2, -opLen, hp, nd_cells, hndf, hndp, new_m, set_m, new_nx']; refine ⟨?_, ?_⟩ <;> intro hc) | (refine awp_drawT isCallO mixed (by decide +kernel) ?_; simp [-cellOK, nw_cells, nw_fold, q1, q2, -opLen, hp, nd_cells, hndf, hndp, new_m, set_m, new_nx']) | fail)
  generalize hσ1 : St.set _ _ _ = σ1
  have m6 : σ1.m ⟨6, σ.nx 6, 4⟩ = some (.buf [.agg [.sl 0 [] true, .raw (.int .i64 0), .raw (.int .i64 0), .raw (.int .i64 0)]]) := by rw [← hσ1]; simp [new_m, set_m, new_nx']
  have m8 : σ1.m ⟨8, σ.nx 8, 4⟩ = some (.buf [.agg [.sl 0 [] true, .raw (.int .i64 0), .raw (.int .i64 0), .raw (.int .i64 0)]]) := by rw [← hσ1]; simp [new_m, set_m, new_nx']
  have m9 : σ1.m ⟨9, σ.nx 9, 3⟩ = some (.buf [ndAV 4 ⟨0, 0⟩]) := by rw [← hσ1]; simp [new_m, set_m, new_nx']
  have hE1 : Ext σ σ1 := by rw [← hσ1]; exact (by repeat (first | assumption | exact Ext.refl _ | refine ext_new' ?_ | refine Ext.setF ?_ (by first | assumption | (simp [new_nx', St.set, fresh_none]; done) | exact ext_fresh (by assumption))))
  clear hσ1
  refine (devices_calls N f d a ⟨9, σ.nx 9, 3⟩ (by rw [m9]; simp)).mono ?_
  rintro _ τ ⟨iat, rfl, his, hi0, him, hEτ⟩
  have hEs : Ext σ τ := hE1.trans hEτ
  have hiat0 : σ.m iat = none := by
    cases h : σ.m iat with
    | none => rfl
    | some o => rw [hE1.m _ _ h] at hi0; cases hi0
  (try (first | (with_reducible refine dops_go ?_; simp [-cellOK]) | (with_reducible refine OKv_go ?_; simp [-cellOK]) | (with_reducible refine OKr_go ?_; simp [-cellOK]))); repeat' (first | refine awp_seq ?_ | refine awp_block ?_ | (refine awp_skip ?_; try simp) | (refine awp_exit ?_; try simp) | (refine awp_ret ?_; try simp) | (refine retP_same (by simp) ?_; simp) | (refine retP_no (by simp) (by simp [noIds]) (by repeat (first | assumption | exact Ext.refl _ | refine ext_new' ?_ | refine Ext.setF ?_ (by first | assumption | (simp [new_nx', St.set, fresh_none]; done) | exact ext_fresh (by assumption)))) ?_; simp [-cellOK, new_m, set_m, new_nx']) | (refine awp_reg ?_; simp [-cellOK]) | (refine awp_drawT (fun _ => false) mixed (by decide +kernel) ?_; simp [-cellOK]) | (refine guarded_split ?_ ?_ <;> (intro hg; simp only [hg]; simp [-cellOK])) | (apply awp_cond_t; focus (simp [-cellOK]; done)) | (apply awp_cond_f; focus (simp [-cellOK]; done)) | (refine awp_cond ?_; simp [-cellOK]; refine ⟨?_, ?_⟩ <;> intro hc) | (refine awp_drawT isCallO mixed (by decide +kernel) ?_; simp [-cellOK]) | fail)
  generalize hA : put 47 _ 27 _ = A
  have a6 : A 6 = .rp ⟨6, σ.nx 6, 4⟩ 0 0 := by rw [← hA]; simp
  have a8 : A 8 = .rp ⟨8, σ.nx 8, 4⟩ 0 0 := by rw [← hA]; simp
  have a9 : A 9 = .rp ⟨9, σ.nx 9, 3⟩ 0 0 := by rw [← hA]; simp
  have a27 : A 27 = .fn (.func 69) [] [.rp iat 0 0, .pp (nwAV N f).cells 0, .pp [.raw (.int .u32 a)] 0, .pp [.rp ⟨9, σ.nx 9, 3⟩ 0 0] 0] := by rw [← hA]; simp [nw_cells]
  clear hA
  obtain ⟨i6, hi6⟩ : ∃ i, (⟨6, σ.nx 6, 4⟩ : Id) = i := ⟨_, rfl⟩
  obtain ⟨i8, hi8⟩ : ∃ i, (⟨8, σ.nx 8, 4⟩ : Id) = i := ⟨_, rfl⟩
  obtain ⟨ie, hie⟩ : ∃ i, (⟨9, σ.nx 9, 3⟩ : Id) = i := ⟨_, rfl⟩
  have s6 : i6.sz = 4 := by rw [← hi6]
  have s8 : i8.sz = 4 := by rw [← hi8]
  have se : ie.sz = 3 := by rw [← hie]
  have d68 : i6 ≠ i8 := by rw [← hi6, ← hi8]; simp
  rw [hi6] at m6 f6 a6
  rw [hi8] at m8 f8 a8
  rw [hie] at m9 f9 a9 a27
  have nsz : ∀ {i j : Id}, i.sz ≠ j.sz → i ≠ j := fun h e => h (by rw [e])
  refine awp_block_cutH (fun B ρ => B 6 = .rp i6 0 0 ∧ B 8 = .rp i8 0 0 ∧ B 9 = .rp ie 0 0 ∧ ∃ v, TrS σ ρ i6 i8 v (traceF N d a).path ∧ ρ.m ie = some (.buf [ndAV (traceF N d a).out (traceF N d a).last])) ?_ ?_
  · intro R1 hR1
    refine awp_rangeFn a27 fun b lo L hlo hL => ?_
    have hLf : τ.m L = none := by rw [hL]; exact fresh_none _ _ _
    have hL0 : σ.m L = none := by rw [hL]; exact ext_fresh hEs
    have sL : L.sz = 0 := by rw [hL]
    have hσL : (τ.new 0 0 (lo .ready none)).m L = some (lo .ready none) := by rw [hL]; simp
    obtain ⟨Q, hQ⟩ : ∃ Q : Int → List Int → St → Prop, ∀ d' p ρ, Q d' p ρ ↔ ∃ v, Way N a d d' p ∧ TrS σ ρ i6 i8 v p ∧ (∀ k l, v ≠ .rs iat k l) ∧ ρ.m L = some (lo .ready none) ∧ ρ.m ie = some (.buf [ndAV 4 ⟨0, 0⟩]) ∧ ρ.m iat = some (.buf [.raw (.int .i64 d')]) := ⟨_, fun _ _ _ => Iff.rfl⟩
    obtain ⟨F, hF⟩ : ∃ F : St → Prop, ∀ ρ, F ρ ↔ ∃ st pd v, ρ.m L = some (lo st pd) ∧ st ≠ .busy ∧ (pd = none ∨ pd = some (.exit 0)) ∧ TrS σ ρ i6 i8 v (traceF N d a).path ∧ ρ.m ie = some (.buf [ndAV (traceF N d a).out (traceF N d a).last]) := ⟨_, fun _ => Iff.rfl⟩
    refine (devs_yield N f a iat ie hN (1 + 2 * N.t.links.length) Q F b ?_ ?_ ?_ ?_ ?_ (d0 := d) ?_).mono ?_
    · intro d' p ρ h; obtain ⟨v, hw, _⟩ := (hQ _ _ _).1 h; exact hw.len
    · intro d' p ρ π h k
      obtain ⟨v, hw, hS, hv, h1, h2, h3⟩ := (hQ _ _ _).1 h
      exact (hQ _ _ _).2 ⟨v, hw, hS.up k, hv, k.m _ _ h1, k.m _ _ h2, k.m _ _ h3⟩
    · intro ρ π h k
      obtain ⟨st, pd, v, h1, h2, h3, hS, h4⟩ := (hF _).1 h
      exact (hF _).2 ⟨st, pd, v, k.m _ _ h1, h2, h3, hS.up k, k.m _ _ h4⟩
    · intro d' p ρ h; obtain ⟨v, hw, hS, hv, h1, h2, h3⟩ := (hQ _ _ _).1 h; exact h3
    · intro d' p ρ h
      obtain ⟨v, hw, hS, hv, h1, h2, h3⟩ := (hQ _ _ _).1 h
      have hpl := hw.len
      have nL6 : i6 ≠ L := nsz (by rw [s6, sL]; decide)
      have nL8 : i8 ≠ L := nsz (by rw [s8, sL]; decide)
      have nLe : ie ≠ L := nsz (by rw [se, sL]; decide)
      have nLa : iat ≠ L := nsz (by rw [his, sL]; decide)
      have ne8 : ie ≠ i8 := nsz (by rw [se, s8]; decide)
      have na8 : iat ≠ i8 := nsz (by rw [his, s8]; decide)
      have nae : iat ≠ ie := nsz (by rw [his, se]; decide)
      refine YK.of h1 hlo (by simp) ?_
      show AWP _ _ _ _ _ (put 47 A 28 (.raw (.int .i64 d'))) ρ
      (try (first | (with_reducible refine dops_go ?_; simp [-cellOK]) | (with_reducible refine OKv_go ?_; simp [-cellOK]) | (with_reducible refine OKr_go ?_; simp [-cellOK]))); repeat' (first | refine awp_seq ?_ | refine awp_block ?_ | (refine awp_skip ?_; try simp) | (refine awp_exit ?_; try simp) | (refine awp_ret ?_; try simp) | (refine retP_same (by simp) ?_; simp) | (refine retP_no (by simp) (by simp [noIds]) (by repeat (first | assumption | exact Ext.refl _ | refine ext_new' ?_ | refine Ext.setF ?_ (by first | assumption | (simp [new_nx', St.set, fresh_none]; done) | exact ext_fresh (by assumption)))) ?_; simp [-cellOK, new_m, set_m, new_nx']) | (refine awp_reg ?_; simp [-cellOK]) | (refine awp_drawT (fun _ => false) mixed (by decide +kernel) ?_; simp [-cellOK]) | (refine guarded_split ?_ ?_ <;> (intro hg; simp only [hg]; simp [-cellOK])) | (apply awp_cond_t; focus (simp [-cellOK]; done)) | (apply awp_cond_f; focus (simp [-cellOK]; done)) | (refine awp_cond ?_; simp [-cellOK]; refine ⟨?_, ?_⟩ <;> intro hc) | (refine awp_drawT isCallO mixed (by decide +kernel) ?_; simp [-cellOK]) | fail)
      refine ⟨h1, ?_⟩
      have g1 : (ρ.set L (lo .busy none)).m L = some (lo .busy none) := by simp [h1]
      have g2 : (ρ.set L (lo .busy none)).m ie = some (.buf [ndAV 4 ⟨0, 0⟩]) := by rw [set_other nLe]; exact h2
      have g3 : (ρ.set L (lo .busy none)).m iat = some (.buf [.raw (.int .i64 d')]) := by rw [set_other nLa]; exact h3
      have gS : TrS σ (ρ.set L (lo .busy none)) i6 i8 v p := hS.put nL6 nL8 (hS.own.ne_sz (by rw [sL]; decide)) hL0
      generalize ρ.set L (lo .busy none) = ρ2 at g1 g2 g3 gS ⊢
      clear h1 h2 h3 hS
      obtain ⟨hE2, q6, q8, hO⟩ := gS
      have hc : PCalls Try.prog 42 [.sl 1 (p.map iAV) false, .raw (.int .i64 d')] (.raw (.bool (p.any fun x => decide (d' = x)))) := contains_calls p false d' (by omega)
      obtain ⟨b0, hb0⟩ : ∃ b, (p.any fun x => decide (d' = x)) = b := ⟨_, rfl⟩
      have hb : (d' ∈ p) ↔ b0 = true := by rw [← hb0, List.any_eq_true]; constructor
                                           · exact fun h => ⟨d', h, by simp⟩
                                           · rintro ⟨x, hx, e⟩; simp only [decide_eq_true_eq] at e; exact e ▸ hx
      rw [hb0] at hc
      (try (first | (with_reducible refine dops_go ?_; simp [-cellOK, a8, q8]) | (with_reducible refine OKv_go ?_; simp [-cellOK, a8, q8]) | (with_reducible refine OKr_go ?_; simp [-cellOK, a8, q8]))); repeat' (first | refine awp_seq ?_ | refine awp_block ?_ | (refine awp_skip ?_; try simp) | (refine awp_exit ?_; try simp) | (refine awp_ret ?_; try simp) | (refine retP_same (by simp) ?_; simp) | (refine retP_no (by simp) (by simp [noIds]) (by repeat (first | assumption | exact Ext.refl _ | refine ext_new' ?_ | refine Ext.setF ?_ (by first | assumption | (simp [new_nx', St.set, fresh_none]; done) | exact ext_fresh (by assumption)))) ?_; simp [-cellOK, a8, q8, new_m, set_m, new_nx']) | (refine awp_reg ?_; simp [-cellOK, a8, q8]) | (refine awp_drawT (fun _ => false) mixed (by decide +kernel) ?_; simp [-cellOK, a8, q8]) | (refine guarded_split ?_ ?_ <;> (intro hg; simp only [hg]; simp [-cellOK, a8, q8])) | (apply awp_cond_t; focus (simp [-cellOK, a8, q8]; done)) | (apply awp_cond_f; focus (simp [-cellOK, a8, q8]; done)) | (refine awp_cond ?_; simp [-cellOK, a8, q8]; refine ⟨?_, ?_⟩ <;> intro hc) | (refine awp_drawT isCallO mixed (by decide +kernel) ?_; simp [-cellOK, a8, q8]) | fail)
      refine hc.useP rfl hO.toP ?_
      (try (first | (with_reducible refine dops_go ?_; simp [-cellOK, a8, q8, -opAppend]) | (with_reducible refine OKv_go ?_; simp [-cellOK, a8, q8, -opAppend]) | (with_reducible refine OKr_go ?_; simp [-cellOK, a8, q8, -opAppend]))); repeat' (first | refine awp_seq ?_ | refine awp_block ?_ | (refine awp_skip ?_; try simp) | (refine awp_exit ?_; try simp) | (refine awp_ret ?_; try simp) | (refine retP_same (by simp) ?_; simp) | (refine retP_no (by simp) (by simp [noIds]) (by repeat (first | assumption | exact Ext.refl _ | refine ext_new' ?_ | refine Ext.setF ?_ (by first | assumption | (simp [new_nx', St.set, fresh_none]; done) | exact ext_fresh (by assumption)))) ?_; simp [-cellOK, a8, q8, -opAppend, new_m, set_m, new_nx']) | (refine awp_reg ?_; simp [-cellOK, a8, q8, -opAppend]) | (refine awp_drawT (fun _ => false) mixed (by decide +kernel) ?_; simp [-cellOK, a8, q8, -opAppend]) | (refine guarded_split ?_ ?_ <;> (intro hg; simp only [hg]; simp [-cellOK, a8, q8, -opAppend])) | (apply awp_cond_t; focus (simp [-cellOK, a8, q8, -opAppend]; done)) | (apply awp_cond_f; focus (simp [-cellOK, a8, q8, -opAppend]; done)) | (refine awp_cond ?_; simp [-cellOK, a8, q8, -opAppend]; refine ⟨?_, ?_⟩ <;> intro hc) | (refine awp_drawT isCallO mixed (by decide +kernel) ?_; simp [-cellOK, a8, q8, -opAppend]) | fail)
      refine okr_append slt22 (σ0 := σ) (hO.ext (by repeat (first | assumption | exact Ext.refl _ | refine ext_new' ?_ | refine Ext.setF ?_ (by first | assumption | (simp [new_nx', St.set, fresh_none]; done) | exact ext_fresh (by assumption))))) (by repeat (first | assumption | exact Ext.refl _ | refine ext_new' ?_ | refine Ext.setF ?_ (by first | assumption | (simp [new_nx', St.set, fresh_none]; done) | exact ext_fresh (by assumption)))) (ys := [iAV d']) (by simp [new_m, new_nx', iAV]) (.inr rfl) (by simp [iAV]) (by simp; omega) ?_
      intro v' τ' hO' hE' hk hnx
      obtain ⟨k6, _⟩ := hk i6 _ (new_up _ _ q6) (hO.ne_sz (by rw [s6]; decide))
      obtain ⟨k8, _⟩ := hk i8 _ (new_up _ _ q8) (hO.ne_sz (by rw [s8]; decide))
      obtain ⟨ke, _⟩ := hk ie _ (new_up _ _ g2) (hO.ne_sz (by rw [se]; decide))
      obtain ⟨kL, _⟩ := hk L _ (new_up _ _ g1) (hO.ne_sz (by rw [sL]; decide))
      obtain ⟨ka, hva⟩ := hk iat _ (new_up _ _ g3) hv
      clear hk
      have hO2 : OwnL σ τ' 1 v' ((p ++ [d']).map iAV) := by rw [List.map_append]; exact hO'
      have hS3 : ∀ o, TrS σ ((τ'.set i8 (.buf [.agg [v', .raw (.int .i64 0), .raw (.int .i64 0), .raw (.int .i64 0)]])).set L o) i6 i8 v' (p ++ [d']) := fun o =>
        (show TrS σ (τ'.set i8 (.buf [.agg [v', .raw (.int .i64 0), .raw (.int .i64 0), .raw (.int .i64 0)]])) i6 i8 v' (p ++ [d']) from
          ⟨Ext.setF hE' f8, by rw [set_other d68]; exact k6, by simp [k8], hO2.set (hO2.ne_sz (by rw [s8]; decide))⟩).put nL6 nL8 (hO2.ne_sz (by rw [sL]; decide)) hL0
      have e1 : ∀ o, ((τ'.set i8 (.buf [.agg [v', .raw (.int .i64 0), .raw (.int .i64 0), .raw (.int .i64 0)]])).set L o).m L = some o := fun o => by simp [set_other nL8.symm, kL]
      have e2 : ∀ o, ((τ'.set i8 (.buf [.agg [v', .raw (.int .i64 0), .raw (.int .i64 0), .raw (.int .i64 0)]])).set L o).m ie = some (.buf [ndAV 4 ⟨0, 0⟩]) := fun o => by rw [set_other nLe, set_other ne8]; exact ke
      have e3 : ∀ o, ((τ'.set i8 (.buf [.agg [v', .raw (.int .i64 0), .raw (.int .i64 0), .raw (.int .i64 0)]])).set L o).m iat = some (.buf [.raw (.int .i64 d')]) := fun o => by rw [set_other nLa, set_other na8]; exact ka
      have e0 : (τ'.set i8 (.buf [.agg [v', .raw (.int .i64 0), .raw (.int .i64 0), .raw (.int .i64 0)]])).m L = some (lo .busy none) := by rw [set_other nL8.symm]; exact kL
      cases b0 with
      | true =>
        have hd := hb.2 rfl
        have hR := hw.again hd
        (try (first | (with_reducible refine dops_go ?_; simp [-cellOK, a8, k8, hO'.cells, hO'.cellOK]) | (with_reducible refine OKv_go ?_; simp [-cellOK, a8, k8, hO'.cells, hO'.cellOK]) | (with_reducible refine OKr_go ?_; simp [-cellOK, a8, k8, hO'.cells, hO'.cellOK]))); repeat' (first | refine awp_seq ?_ | refine awp_block ?_ | (refine awp_skip ?_; try simp) | (refine awp_exit ?_; try simp) | (refine awp_ret ?_; try simp) | (refine retP_same (by simp) ?_; simp) | (refine retP_no (by simp) (by simp [noIds]) (by repeat (first | assumption | exact Ext.refl _ | refine ext_new' ?_ | refine Ext.setF ?_ (by first | assumption | (simp [new_nx', St.set, fresh_none]; done) | exact ext_fresh (by assumption)))) ?_; simp [-cellOK, a8, k8, hO'.cells, hO'.cellOK, new_m, set_m, new_nx']) | (refine awp_reg ?_; simp [-cellOK, a8, k8, hO'.cells, hO'.cellOK]) | (refine awp_drawT (fun _ => false) mixed (by decide +kernel) ?_; simp [-cellOK, a8, k8, hO'.cells, hO'.cellOK]) | (refine guarded_split ?_ ?_ <;> (intro hg; simp only [hg]; simp [-cellOK, a8, k8, hO'.cells, hO'.cellOK])) | (apply awp_cond_t; focus (simp [-cellOK, a8, k8, hO'.cells, hO'.cellOK]; done)) | (apply awp_cond_f; focus (simp [-cellOK, a8, k8, hO'.cells, hO'.cellOK]; done)) | (refine awp_cond ?_; simp [-cellOK, a8, k8, hO'.cells, hO'.cellOK]; refine ⟨?_, ?_⟩ <;> intro hc) | (refine awp_drawT isCallO mixed (by decide +kernel) ?_; simp [-cellOK, a8, k8, hO'.cells, hO'.cellOK]) | fail)
        refine ⟨e0, .inr ⟨rfl, (hF _).2 ⟨.done, some (.exit 0), v', e1 _, by simp, .inr rfl, ?_, ?_⟩⟩⟩
        · rw [hR]; exact hS3 _
        · rw [hR]; exact e2 _
      | false =>
        have hd : d' ∉ p := fun h => by have := hb.1 h; cases this
        (try (first | (with_reducible refine dops_go ?_; simp [-cellOK, a8, k8, hO'.cells, hO'.cellOK]) | (with_reducible refine OKv_go ?_; simp [-cellOK, a8, k8, hO'.cells, hO'.cellOK]) | (with_reducible refine OKr_go ?_; simp [-cellOK, a8, k8, hO'.cells, hO'.cellOK]))); repeat' (first | refine awp_seq ?_ | refine awp_block ?_ | (refine awp_skip ?_; try simp) | (refine awp_exit ?_; try simp) | (refine awp_ret ?_; try simp) | (refine retP_same (by simp) ?_; simp) | (refine retP_no (by simp) (by simp [noIds]) (by repeat (first | assumption | exact Ext.refl _ | refine ext_new' ?_ | refine Ext.setF ?_ (by first | assumption | (simp [new_nx', St.set, fresh_none]; done) | exact ext_fresh (by assumption)))) ?_; simp [-cellOK, a8, k8, hO'.cells, hO'.cellOK, new_m, set_m, new_nx']) | (refine awp_reg ?_; simp [-cellOK, a8, k8, hO'.cells, hO'.cellOK]) | (refine awp_drawT (fun _ => false) mixed (by decide +kernel) ?_; simp [-cellOK, a8, k8, hO'.cells, hO'.cellOK]) | (refine guarded_split ?_ ?_ <;> (intro hg; simp only [hg]; simp [-cellOK, a8, k8, hO'.cells, hO'.cellOK])) | (apply awp_cond_t; focus (simp [-cellOK, a8, k8, hO'.cells, hO'.cellOK]; done)) | (apply awp_cond_f; focus (simp [-cellOK, a8, k8, hO'.cells, hO'.cellOK]; done)) | (refine awp_cond ?_; simp [-cellOK, a8, k8, hO'.cells, hO'.cellOK]; refine ⟨?_, ?_⟩ <;> intro hc) | (refine awp_drawT isCallO mixed (by decide +kernel) ?_; simp [-cellOK, a8, k8, hO'.cells, hO'.cellOK]) | fail)
        refine ⟨e0, .inl ⟨rfl, e3 _, e2 _, fun hs π hπ => ?_, fun hs π hπ => ?_⟩⟩
        · have hR := hw.fin hd hs
          have hS4 := (hS3 (lo .ready none)).up hπ
          refine (hF _).2 ⟨.ready, none, v', ?_, by simp, .inl rfl, ?_, ?_⟩
          · rw [set_other nLe.symm]; exact hπ.m _ _ (e1 _)
          · rw [hR]
            exact hS4.put (nsz (by rw [s6, se]; decide)) ne8.symm (hO2.ne_sz (by rw [se]; decide)) f9
          · rw [hR]; simp [hπ.m _ _ (e2 (lo .ready none))]
        · have hw' := hw.on hd hs
          have hS4 := (hS3 (lo .ready none)).up hπ
          refine (hQ _ _ _).2 ⟨v', hw', hS4.put (nsz (by rw [s6, his]; decide)) na8.symm hva hiat0, hva, ?_, ?_, ?_⟩
          · rw [set_other nLa.symm]; exact hπ.m _ _ (e1 _)
          · rw [set_other nae.symm]; exact hπ.m _ _ (e2 _)
          · simp [hπ.m _ _ (e3 (lo .ready none))]
    · exact (hQ _ _ _).2 ⟨.sl 0 [] true, Way.start N a d, ⟨hEs.trans (Ext.new _ _ _ _), new_up _ _ (hEτ.m _ _ m6), new_up _ _ (hEτ.m _ _ m8), .inl ⟨rfl, rfl⟩⟩, by simp, hσL, new_up _ _ (hEτ.m _ _ m9), new_up _ _ him⟩
    · intro _ ρ h
      obtain ⟨st, pd, v, h1, h2, h3, hS, h4⟩ := (hF _).1 h
      have hfin : R1 A (ρ.del L) := hR1 _ _ ⟨a6, a8, a9, v, hS.del (nsz (by rw [s6, sL]; decide)) (nsz (by rw [s8, sL]; decide)) (hS.own.ne_sz (by rw [sL]; decide)) hL0, by rw [del_other (nsz (by rw [se, sL]; decide))]; exact h4⟩
      refine ⟨st, pd, h1, h2, fun _ => hfin, fun c hc => ?_⟩
      rcases h3 with h3 | h3
      · rw [h3] at hc; cases hc
      · rw [h3] at hc
        simp only [Option.some.injEq] at hc
        subst hc
        refine awp_exit ?_
        simpa using hfin
  · rintro B ρ ⟨a6, a8, a9, v, ⟨hE, h6, h8, hO⟩, h9⟩
    generalize traceF N d a = R at h9 hO ⊢
    refine awp_seq ?_
    refine awp_freeze ie ?_
    have n6e : i6 ≠ ie := nsz (by rw [s6, se]; decide)
    have n8e : i8 ≠ ie := nsz (by rw [s8, se]; decide)
    obtain ⟨C, hC⟩ : ∃ C, (fun t => giveUp (ρ.del ie).m ρ.m (B t)) = C := ⟨_, rfl⟩
    rw [hC]
    have c6 : C 6 = .rp i6 0 0 := by rw [← hC]; show giveUp _ _ (B 6) = _; rw [a6]; exact giveUp_rp_ne n6e
    have c8 : C 8 = .rp i8 0 0 := by rw [← hC]; show giveUp _ _ (B 8) = _; rw [a8]; exact giveUp_rp_ne n8e
    have c9 : C 9 = .pp (ndAV R.out R.last).cells 0 := by rw [← hC]; show giveUp _ _ (B 9) = _; rw [a9]; exact giveUp_rp_made (by simp) h9 rfl
    have hE' : Ext σ (ρ.del ie) := ⟨fun j o hj => by rw [del_other (fun e => by rw [e, f9] at hj; cases hj)]; exact hE.m j o hj, hE.nx⟩
    have h6' := (del_other (σ := ρ) n6e).trans h6
    have h8' := (del_other (σ := ρ) n8e).trans h8
    have hO' : OwnL σ (ρ.del ie) 1 v (R.path.map iAV) := hO.del (hO.ne_sz (by rw [se]; decide))
    generalize ρ.del ie = ρ' at hE' h6' h8' hO' ⊢
    clear hC a6 a8 a9 h6 h8 h9 hO hE
    have hv1 := hO'.cells
    have hv2 := hO'.cellOK
    have hvp : ∀ x y z : Value, setPart (AV.agg [v, .raw x, .raw y, .raw z]) 2 (ptAV R.last).cells = .agg [v, .raw x, .raw (.int .i64 R.last.dev), .raw (.int .i64 R.last.port)] := fun _ _ _ => rfl
    refine awp_drawP [0, 1, 2, 3, 4, 6] 5 7 (lsO [41, 43]) mixed (by decide +kernel) ?_
    rw [List.map_cons, List.map_cons, List.map_cons, List.map_cons, List.map_cons, List.map_cons, List.map_nil]
    dsimp only [mkD, List.getElem?_cons_zero, List.getElem?_cons_succ, guardOf, Option.map_none, Option.map_some]
    (try (first | (with_reducible refine dops_go ?_; simp [-cellOK, c6, c8, c9, nd_cells, pt_fold, pt_cells, h8']) | (with_reducible refine OKv_go ?_; simp [-cellOK, c6, c8, c9, nd_cells, pt_fold, pt_cells, h8']) | (with_reducible refine OKr_go ?_; simp [-cellOK, c6, c8, c9, nd_cells, pt_fold, pt_cells, h8']))); repeat' (first | refine awp_seq ?_ | refine awp_block ?_ | (refine awp_skip ?_; try simp) | (refine awp_exit ?_; try simp) | (refine awp_ret ?_; try simp) | (refine retP_same (by simp) ?_; simp) | (refine retP_no (by simp) (by simp [noIds]) (by repeat (first | assumption | exact Ext.refl _ | refine ext_new' ?_ | refine Ext.setF ?_ (by first | assumption | (simp [new_nx', St.set, fresh_none]; done) | exact ext_fresh (by assumption)))) ?_; simp [-cellOK, c6, c8, c9, nd_cells, pt_fold, pt_cells, h8', new_m, set_m, new_nx']) | (refine awp_reg ?_; simp [-cellOK, c6, c8, c9, nd_cells, pt_fold, pt_cells, h8']) | (refine awp_drawT (fun _ => false) mixed (by decide +kernel) ?_; simp [-cellOK, c6, c8, c9, nd_cells, pt_fold, pt_cells, h8']) | (refine guarded_split ?_ ?_ <;> (intro hg; simp only [hg]; simp [-cellOK, c6, c8, c9, nd_cells, pt_fold, pt_cells, h8'])) | (apply awp_cond_t; focus (simp [-cellOK, c6, c8, c9, nd_cells, pt_fold, pt_cells, h8']; done)) | (apply awp_cond_f; focus (simp [-cellOK, c6, c8, c9, nd_cells, pt_fold, pt_cells, h8']; done)) | (refine awp_cond ?_; simp [-cellOK, c6, c8, c9, nd_cells, pt_fold, pt_cells, h8']; refine ⟨?_, ?_⟩ <;> intro hc) | (refine awp_drawT isCallO mixed (by decide +kernel) ?_; simp [-cellOK, c6, c8, c9, nd_cells, pt_fold, pt_cells, h8']) | fail)
    have hvs : ∀ {i : Id}, i.sz = 4 → ∀ k l, v ≠ .rs i k l := fun h => hO'.ne_sz (by rw [h]; decide)
    have hd86 : i8 ≠ i6 := d68.symm
    have hv3 : ∀ w x y z : Value, [v, AV.raw x, AV.raw y, AV.raw z].length = 4 := fun _ _ _ _ => rfl
    have hcok : ∀ x y z : Int, cellsOK [v, AV.raw (.int .i64 x), AV.raw (.int .i64 y), AV.raw (.int .i64 z)] = true := fun x y z => by simp [-cellOK, hv2]
    refine ⟨?_, ?_⟩
    · (try (first | (with_reducible refine dops_go ?_; simp [-cellOK, c6, c8, h6', h8', hv1, hv2, set_m, d68, hd86]) | (with_reducible refine OKv_go ?_; simp [-cellOK, c6, c8, h6', h8', hv1, hv2, set_m, d68, hd86]) | (with_reducible refine OKr_go ?_; simp [-cellOK, c6, c8, h6', h8', hv1, hv2, set_m, d68, hd86]))); repeat' (first | refine awp_seq ?_ | refine awp_block ?_ | (refine awp_skip ?_; try simp) | (refine awp_exit ?_; try simp) | (refine awp_ret ?_; try simp) | (refine awp_reg ?_; simp [-cellOK, c6, c8, h6', h8', hv1, hv2, set_m, d68, hd86]) | (refine awp_drawT (fun _ => false) mixed (by decide +kernel) ?_; simp [-cellOK, c6, c8, h6', h8', hv1, hv2, set_m, d68, hd86]) | (refine guarded_split ?_ ?_ <;> (intro hg; simp only [hg]; simp [-cellOK, c6, c8, h6', h8', hv1, hv2, set_m, d68, hd86])) | (apply awp_cond_t; focus (simp [-cellOK, c6, c8, h6', h8', hv1, hv2, set_m, d68, hd86]; done)) | (apply awp_cond_f; focus (simp [-cellOK, c6, c8, h6', h8', hv1, hv2, set_m, d68, hd86]; done)) | (refine awp_cond ?_; simp [-cellOK, c6, c8, h6', h8', hv1, hv2, set_m, d68, hd86]; refine ⟨?_, ?_⟩ <;> intro hc) | (refine awp_drawT isCallO mixed (by decide +kernel) ?_; simp [-cellOK, c6, c8, h6', h8', hv1, hv2, set_m, d68, hd86]) | fail)
      refine retP_ownAT (v := v) (.inr rfl) (by simp [set_m, h6', h8', d68, hd86, c6, c8]) (((hO'.set (hvs s8)).set (hvs s8)).set (hvs s6)) ?_
      exact Ext.setF (Ext.setF (Ext.setF hE' f8) f8) f6
    · (try (first | (with_reducible refine dops_go ?_; simp [-cellOK, c6, c8, h6', h8', hv1, hv2, set_m, d68, hd86]) | (with_reducible refine OKv_go ?_; simp [-cellOK, c6, c8, h6', h8', hv1, hv2, set_m, d68, hd86]) | (with_reducible refine OKr_go ?_; simp [-cellOK, c6, c8, h6', h8', hv1, hv2, set_m, d68, hd86]))); repeat' (first | refine awp_seq ?_ | refine awp_block ?_ | (refine awp_skip ?_; try simp) | (refine awp_exit ?_; try simp) | (refine awp_ret ?_; try simp) | (refine awp_reg ?_; simp [-cellOK, c6, c8, h6', h8', hv1, hv2, set_m, d68, hd86]) | (refine awp_drawT (fun _ => false) mixed (by decide +kernel) ?_; simp [-cellOK, c6, c8, h6', h8', hv1, hv2, set_m, d68, hd86]) | (refine guarded_split ?_ ?_ <;> (intro hg; simp only [hg]; simp [-cellOK, c6, c8, h6', h8', hv1, hv2, set_m, d68, hd86])) | (apply awp_cond_t; focus (simp [-cellOK, c6, c8, h6', h8', hv1, hv2, set_m, d68, hd86]; done)) | (apply awp_cond_f; focus (simp [-cellOK, c6, c8, h6', h8', hv1, hv2, set_m, d68, hd86]; done)) | (refine awp_cond ?_; simp [-cellOK, c6, c8, h6', h8', hv1, hv2, set_m, d68, hd86]; refine ⟨?_, ?_⟩ <;> intro hc) | (refine awp_drawT isCallO mixed (by decide +kernel) ?_; simp [-cellOK, c6, c8, h6', h8', hv1, hv2, set_m, d68, hd86]) | fail)
      refine retP_ownAT (v := v) (.inr rfl) (by simp [set_m, h6', h8', d68, hd86, c6, c8]) (((hO'.set (hvs s8)).set (hvs s8)).set (hvs s6)) ?_
      exact Ext.setF (Ext.setF (Ext.setF hE' f8) f8) f6
end Go.Proofs.Ytanimmdlgmkmkaa.Av


/- Networks: what is genuine; queries: right ones, sources, what breaks them. -/
namespace Go.Proofs.Ytanimmdlgmkmkaa.Av
open Go
set_option linter.unusedSimpArgs false
set_option linter.unusedVariables false
set_option maxRecDepth 100000
set_option maxHeartbeats 4000000
set_option pp.maxSteps 600

@[simp] theorem tk_ids (K : Id → Prop) (t : Tk) (b : Bool) : (tkAV t b).ids K := by simp [tkAV]
theorem tk_cells (t : Tk) (f : Bool) : (tkAV t f).cells = [intsAV t.path f, .raw (.int .i64 t.out), .raw (.int .i64 t.last.dev), .raw (.int .i64 t.last.port)] := rfl
theorem tk_fold (t : Tk) (f : Bool) : AV.agg [intsAV t.path f, .raw (.int .i64 t.out), .raw (.int .i64 t.last.dev), .raw (.int .i64 t.last.port)] = tkAV t f := rfl
theorem ints_cells (l : List Int) (f : Bool) : (intsAV l f).cells = [intsAV l f] := rfl
theorem tk_put (t u : Tk) (f g : Bool) : setPart (tkAV t f) 0 (tkAV u g).cells = tkAV u g := rfl
theorem tk_putO (u : Tk) (g : Bool) : setPart (AV.agg [.sl 0 [] true, .raw (.int .i64 0), .raw (.int .i64 0), .raw (.int .i64 0)]) 0 (tkAV u g).cells = tkAV u g := rfl
theorem tk_putL (u : Tk) (g : Bool) : setPart (AV.agg [.sl 0 [] true, .raw (.int .i64 0), .raw (.int .i64 0), .raw (.int .i64 0)]) 0 [intsAV u.path g, .raw (.int .i64 u.out), .raw (.int .i64 u.last.dev), .raw (.int .i64 u.last.port)] = tkAV u g := rfl
def genuineB (N : Nw) (a : Int) (t : Tk) : Bool := match t.path with | [] => false | d :: _ => decide ((traceR N d a).2 = 0) && decide (t = (traceR N d a).1)
theorem walkT_len (n : Nw) (a : Int) : ∀ (f : Nat) (d : Int) (p : List Int), (walkT n a f d p).path.length ≤ p.length + f
  | 0, d, p => by simp [walkT]
  | f + 1, d, p => by
    have := walkT_len n a f (nextDev n (stepF n d a).2) (p ++ [d])
    simp only [walkT]
    split
    · simp
    · split
      · simp only [List.length_append, List.length_singleton] at this; omega
      · simp
theorem traceR_len (n : Nw) (d a : Int) : (traceR n d a).1.path.length ≤ 2 + 2 * n.t.links.length := by
  unfold traceR
  split
  · simp
  · have := walkT_len n a (2 + 2 * n.t.links.length) d []
    simpa [traceF] using this
structure Qy where
  kind : Int
  a : Int
  b : Int
  w : Int
  r : Rg
  other : ByteArray
def qyAV (q : Qy) : AV := .agg [.raw (.int .i64 q.kind), .raw (.int .i64 q.a), .raw (.int .i64 q.b), .raw (.int .i64 q.w), .raw (.int .u32 q.r.lo), .raw (.int .u32 q.r.hi), .raw (.string q.other)]
theorem qy_cells (q : Qy) : (qyAV q).cells = [.raw (.int .i64 q.kind), .raw (.int .i64 q.a), .raw (.int .i64 q.b), .raw (.int .i64 q.w), .raw (.int .u32 q.r.lo), .raw (.int .u32 q.r.hi), .raw (.string q.other)] := rfl
theorem qy_fold (q : Qy) : AV.agg [.raw (.int .i64 q.kind), .raw (.int .i64 q.a), .raw (.int .i64 q.b), .raw (.int .i64 q.w), .raw (.int .u32 q.r.lo), .raw (.int .u32 q.r.hi), .raw (.string q.other)] = qyAV q := rfl
@[simp] theorem qy_ids (K : Id → Prop) (q : Qy) : (qyAV q).ids K := by simp [qyAV]
def singleB (q : Qy) : Bool := decide (q.kind = 0) || (decide (q.kind = 3) || decide (q.kind = 4))
theorem single_calls (q : Qy) : PCalls Try.prog 44 [qyAV q] (.raw (.bool (singleB q))) := by
  refine pbody Try.func44 rfl (N := 16) rfl rfl (by simp) (by simp [noIds]) fun σ => ?_
  unfold singleB
  by_cases h0 : q.kind = 0
  · (try (first | (with_reducible refine dops_go ?_; simp [-cellOK, qy_cells, h0]) | (with_reducible refine OKv_go ?_; simp [-cellOK, qy_cells, h0]) | (with_reducible refine OKr_go ?_; simp [-cellOK, qy_cells, h0]))); repeat' (first | refine awp_seq ?_ | refine awp_block ?_ | (refine awp_skip ?_; try simp) | (refine awp_exit ?_; try simp) | (refine awp_ret ?_; try simp) | (refine retP_same (by simp) ?_; simp) | (refine retP_no (by simp) (by simp [noIds]) (by repeat (first | assumption | exact Ext.refl _ | refine ext_new' ?_ | refine Ext.setF ?_ (by first | assumption | (simp [new_nx', St.set, fresh_none]; done) | exact ext_fresh (by assumption)))) ?_; simp [-cellOK, qy_cells, h0, new_m, set_m, new_nx']) | (refine awp_reg ?_; simp [-cellOK, qy_cells, h0]) | (refine awp_drawT (fun _ => false) mixed (by decide +kernel) ?_; simp [-cellOK, qy_cells, h0]) | (refine guarded_split ?_ ?_ <;> (intro hg; simp only [hg]; simp [-cellOK, qy_cells, h0])) | (apply awp_cond_t; focus (simp [-cellOK, qy_cells, h0]; done)) | (apply awp_cond_f; focus (simp [-cellOK, qy_cells, h0]; done)) | (refine awp_cond ?_; simp [-cellOK, qy_cells, h0]; refine ⟨?_, ?_⟩ <;> intro hc) | (refine awp_drawT isCallO mixed (by decide +kernel) ?_; simp [-cellOK, qy_cells, h0]) | fail)
  · by_cases h3 : q.kind = 3
    · (try (first | (with_reducible refine dops_go ?_; simp [-cellOK, qy_cells, h0, h3]) | (with_reducible refine OKv_go ?_; simp [-cellOK, qy_cells, h0, h3]) | (with_reducible refine OKr_go ?_; simp [-cellOK, qy_cells, h0, h3]))); repeat' (first | refine awp_seq ?_ | refine awp_block ?_ | (refine awp_skip ?_; try simp) | (refine awp_exit ?_; try simp) | (refine awp_ret ?_; try simp) | (refine retP_same (by simp) ?_; simp) | (refine retP_no (by simp) (by simp [noIds]) (by repeat (first | assumption | exact Ext.refl _ | refine ext_new' ?_ | refine Ext.setF ?_ (by first | assumption | (simp [new_nx', St.set, fresh_none]; done) | exact ext_fresh (by assumption)))) ?_; simp [-cellOK, qy_cells, h0, h3, new_m, set_m, new_nx']) | (refine awp_reg ?_; simp [-cellOK, qy_cells, h0, h3]) | (refine awp_drawT (fun _ => false) mixed (by decide +kernel) ?_; simp [-cellOK, qy_cells, h0, h3]) | (refine guarded_split ?_ ?_ <;> (intro hg; simp only [hg]; simp [-cellOK, qy_cells, h0, h3])) | (apply awp_cond_t; focus (simp [-cellOK, qy_cells, h0, h3]; done)) | (apply awp_cond_f; focus (simp [-cellOK, qy_cells, h0, h3]; done)) | (refine awp_cond ?_; simp [-cellOK, qy_cells, h0, h3]; refine ⟨?_, ?_⟩ <;> intro hc) | (refine awp_drawT isCallO mixed (by decide +kernel) ?_; simp [-cellOK, qy_cells, h0, h3]) | fail)
    · by_cases h4 : q.kind = 4
      · (try (first | (with_reducible refine dops_go ?_; simp [-cellOK, qy_cells, h0, h3, h4]) | (with_reducible refine OKv_go ?_; simp [-cellOK, qy_cells, h0, h3, h4]) | (with_reducible refine OKr_go ?_; simp [-cellOK, qy_cells, h0, h3, h4]))); repeat' (first | refine awp_seq ?_ | refine awp_block ?_ | (refine awp_skip ?_; try simp) | (refine awp_exit ?_; try simp) | (refine awp_ret ?_; try simp) | (refine retP_same (by simp) ?_; simp) | (refine retP_no (by simp) (by simp [noIds]) (by repeat (first | assumption | exact Ext.refl _ | refine ext_new' ?_ | refine Ext.setF ?_ (by first | assumption | (simp [new_nx', St.set, fresh_none]; done) | exact ext_fresh (by assumption)))) ?_; simp [-cellOK, qy_cells, h0, h3, h4, new_m, set_m, new_nx']) | (refine awp_reg ?_; simp [-cellOK, qy_cells, h0, h3, h4]) | (refine awp_drawT (fun _ => false) mixed (by decide +kernel) ?_; simp [-cellOK, qy_cells, h0, h3, h4]) | (refine guarded_split ?_ ?_ <;> (intro hg; simp only [hg]; simp [-cellOK, qy_cells, h0, h3, h4])) | (apply awp_cond_t; focus (simp [-cellOK, qy_cells, h0, h3, h4]; done)) | (apply awp_cond_f; focus (simp [-cellOK, qy_cells, h0, h3, h4]; done)) | (refine awp_cond ?_; simp [-cellOK, qy_cells, h0, h3, h4]; refine ⟨?_, ?_⟩ <;> intro hc) | (refine awp_drawT isCallO mixed (by decide +kernel) ?_; simp [-cellOK, qy_cells, h0, h3, h4]) | fail)
      · (try (first | (with_reducible refine dops_go ?_; simp [-cellOK, qy_cells, h0, h3, h4]) | (with_reducible refine OKv_go ?_; simp [-cellOK, qy_cells, h0, h3, h4]) | (with_reducible refine OKr_go ?_; simp [-cellOK, qy_cells, h0, h3, h4]))); repeat' (first | refine awp_seq ?_ | refine awp_block ?_ | (refine awp_skip ?_; try simp) | (refine awp_exit ?_; try simp) | (refine awp_ret ?_; try simp) | (refine retP_same (by simp) ?_; simp) | (refine retP_no (by simp) (by simp [noIds]) (by repeat (first | assumption | exact Ext.refl _ | refine ext_new' ?_ | refine Ext.setF ?_ (by first | assumption | (simp [new_nx', St.set, fresh_none]; done) | exact ext_fresh (by assumption)))) ?_; simp [-cellOK, qy_cells, h0, h3, h4, new_m, set_m, new_nx']) | (refine awp_reg ?_; simp [-cellOK, qy_cells, h0, h3, h4]) | (refine awp_drawT (fun _ => false) mixed (by decide +kernel) ?_; simp [-cellOK, qy_cells, h0, h3, h4]) | (refine guarded_split ?_ ?_ <;> (intro hg; simp only [hg]; simp [-cellOK, qy_cells, h0, h3, h4])) | (apply awp_cond_t; focus (simp [-cellOK, qy_cells, h0, h3, h4]; done)) | (apply awp_cond_f; focus (simp [-cellOK, qy_cells, h0, h3, h4]; done)) | (refine awp_cond ?_; simp [-cellOK, qy_cells, h0, h3, h4]; refine ⟨?_, ?_⟩ <;> intro hc) | (refine awp_drawT isCallO mixed (by decide +kernel) ?_; simp [-cellOK, qy_cells, h0, h3, h4]) | fail)
def noDev (n : Nw) (d : Int) : Bool := decide (d < 0) || decide ((n.t.ports.length : Int) ≤ d)
theorem noDev_calls (n : Nw) (f : Fl) (d : Int) : PCalls Try.prog 65 [.raw (.int .i64 d), .pp (nwAV n f).cells 0] (.raw (.bool (noDev n d))) := by
  refine pbody Try.func65 rfl (N := 14) rfl rfl (by simp) (by simp [noIds]) fun σ => ?_
  have hp : ∀ m, opLen Try.prog m 22 (intsAV n.t.ports f.p) = some (.raw (.int .i64 n.t.ports.length)) := fun m => by simp [intsAV]
  unfold noDev
  by_cases h0 : d < 0
  · (try (first | (with_reducible refine dops_go ?_; simp [-cellOK, nw_cells, h0]) | (with_reducible refine OKv_go ?_; simp [-cellOK, nw_cells, h0]) | (with_reducible refine OKr_go ?_; simp [-cellOK, nw_cells, h0]))); repeat' (first | refine awp_seq ?_ | refine awp_block ?_ | (refine awp_skip ?_; try simp) | (refine awp_exit ?_; try simp) | (refine awp_ret ?_; try simp) | (refine retP_same (by simp) ?_; simp) | (refine retP_no (by simp) (by simp [noIds]) (by repeat (first | assumption | exact Ext.refl _ | refine ext_new' ?_ | refine Ext.setF ?_ (by first | assumption | (simp [new_nx', St.set, fresh_none]; done) | exact ext_fresh (by assumption)))) ?_; simp [-cellOK, nw_cells, h0, new_m, set_m, new_nx']) | (refine awp_reg ?_; simp [-cellOK, nw_cells, h0]) | (refine awp_drawT (fun _ => false) mixed (by decide +kernel) ?_; simp [-cellOK, nw_cells, h0]) | (refine guarded_split ?_ ?_ <;> (intro hg; simp only [hg]; simp [-cellOK, nw_cells, h0])) | (apply awp_cond_t; focus (simp [-cellOK, nw_cells, h0]; done)) | (apply awp_cond_f; focus (simp [-cellOK, nw_cells, h0]; done)) | (refine awp_cond ?_; simp [-cellOK, nw_cells, h0]; refine ⟨?_, ?_⟩ <;> intro hc) | (refine awp_drawT isCallO mixed (by decide +kernel) ?_; simp [-cellOK, nw_cells, h0]) | fail)
  · (try (first | (with_reducible refine dops_go ?_; simp [-cellOK, nw_cells, h0, -opLen, hp]) | (with_reducible refine OKv_go ?_; simp [-cellOK, nw_cells, h0, -opLen, hp]) | (with_reducible refine OKr_go ?_; simp [-cellOK, nw_cells, h0, -opLen, hp]))); repeat' (first | refine awp_seq ?_ | refine awp_block ?_ | (refine awp_skip ?_; try simp) | (refine awp_exit ?_; try simp) | (refine awp_ret ?_; try simp) | (refine retP_same (by simp) ?_; simp) | (refine retP_no (by simp) (by simp [noIds]) (by repeat (first | assumption | exact Ext.refl _ | refine ext_new' ?_ | refine Ext.setF ?_ (by first | assumption | (simp [new_nx', St.set, fresh_none]; done) | exact ext_fresh (by assumption)))) ?_; simp [-cellOK, nw_cells, h0, -opLen, hp, new_m, set_m, new_nx']) | (refine awp_reg ?_; simp [-cellOK, nw_cells, h0, -opLen, hp]) | (refine awp_drawT (fun _ => false) mixed (by decide +kernel) ?_; simp [-cellOK, nw_cells, h0, -opLen, hp]) | (refine guarded_split ?_ ?_ <;> (intro hg; simp only [hg]; simp [-cellOK, nw_cells, h0, -opLen, hp])) | (apply awp_cond_t; focus (simp [-cellOK, nw_cells, h0, -opLen, hp]; done)) | (apply awp_cond_f; focus (simp [-cellOK, nw_cells, h0, -opLen, hp]; done)) | (refine awp_cond ?_; simp [-cellOK, nw_cells, h0, -opLen, hp]; refine ⟨?_, ?_⟩ <;> intro hc) | (refine awp_drawT isCallO mixed (by decide +kernel) ?_; simp [-cellOK, nw_cells, h0, -opLen, hp]) | fail)
def leavesB (t : Tk) (d : Int) : Bool := decide (t.out = 3) && decide (t.last.dev = d)
theorem leaves_calls (t : Tk) (f : Bool) (d : Int) : PCalls Try.prog 74 [tkAV t f, .raw (.int .i64 d)] (.raw (.bool (leavesB t d))) := by
  refine pbody Try.func74 rfl (N := 15) rfl rfl (by simp) (by simp [noIds]) fun σ => ?_
  unfold leavesB
  by_cases h0 : t.out = 3
  · (try (first | (with_reducible refine dops_go ?_; simp [-cellOK, tk_cells, h0]) | (with_reducible refine OKv_go ?_; simp [-cellOK, tk_cells, h0]) | (with_reducible refine OKr_go ?_; simp [-cellOK, tk_cells, h0]))); repeat' (first | refine awp_seq ?_ | refine awp_block ?_ | (refine awp_skip ?_; try simp) | (refine awp_exit ?_; try simp) | (refine awp_ret ?_; try simp) | (refine retP_same (by simp) ?_; simp) | (refine retP_no (by simp) (by simp [noIds]) (by repeat (first | assumption | exact Ext.refl _ | refine ext_new' ?_ | refine Ext.setF ?_ (by first | assumption | (simp [new_nx', St.set, fresh_none]; done) | exact ext_fresh (by assumption)))) ?_; simp [-cellOK, tk_cells, h0, new_m, set_m, new_nx']) | (refine awp_reg ?_; simp [-cellOK, tk_cells, h0]) | (refine awp_drawT (fun _ => false) mixed (by decide +kernel) ?_; simp [-cellOK, tk_cells, h0]) | (refine guarded_split ?_ ?_ <;> (intro hg; simp only [hg]; simp [-cellOK, tk_cells, h0])) | (apply awp_cond_t; focus (simp [-cellOK, tk_cells, h0]; done)) | (apply awp_cond_f; focus (simp [-cellOK, tk_cells, h0]; done)) | (refine awp_cond ?_; simp [-cellOK, tk_cells, h0]; refine ⟨?_, ?_⟩ <;> intro hc) | (refine awp_drawT isCallO mixed (by decide +kernel) ?_; simp [-cellOK, tk_cells, h0]) | fail)
  · (try (first | (with_reducible refine dops_go ?_; simp [-cellOK, tk_cells, h0]) | (with_reducible refine OKv_go ?_; simp [-cellOK, tk_cells, h0]) | (with_reducible refine OKr_go ?_; simp [-cellOK, tk_cells, h0]))); repeat' (first | refine awp_seq ?_ | refine awp_block ?_ | (refine awp_skip ?_; try simp) | (refine awp_exit ?_; try simp) | (refine awp_ret ?_; try simp) | (refine retP_same (by simp) ?_; simp) | (refine retP_no (by simp) (by simp [noIds]) (by repeat (first | assumption | exact Ext.refl _ | refine ext_new' ?_ | refine Ext.setF ?_ (by first | assumption | (simp [new_nx', St.set, fresh_none]; done) | exact ext_fresh (by assumption)))) ?_; simp [-cellOK, tk_cells, h0, new_m, set_m, new_nx']) | (refine awp_reg ?_; simp [-cellOK, tk_cells, h0]) | (refine awp_drawT (fun _ => false) mixed (by decide +kernel) ?_; simp [-cellOK, tk_cells, h0]) | (refine guarded_split ?_ ?_ <;> (intro hg; simp only [hg]; simp [-cellOK, tk_cells, h0])) | (apply awp_cond_t; focus (simp [-cellOK, tk_cells, h0]; done)) | (apply awp_cond_f; focus (simp [-cellOK, tk_cells, h0]; done)) | (refine awp_cond ?_; simp [-cellOK, tk_cells, h0]; refine ⟨?_, ?_⟩ <;> intro hc) | (refine awp_drawT isCallO mixed (by decide +kernel) ?_; simp [-cellOK, tk_cells, h0]) | fail)
def comesB (t : Tk) (d : Int) : Bool := t.path.any fun x => decide (d = x)
theorem brk0_calls (q : Qy) (t u : Tk) (f g : Bool) : PCalls Try.prog 73 [qyAV q, tkAV t f, tkAV u g] (.raw (.bool (!leavesB t q.b))) := by
  have h := leaves_calls t f q.b
  refine pbody Try.func73 rfl (N := 12) rfl rfl (by simp) (by simp [noIds]) fun σ => ?_
  (try (first | (with_reducible refine dops_go ?_; simp [-cellOK, qy_cells, tk_cells, tk_fold]) | (with_reducible refine OKv_go ?_; simp [-cellOK, qy_cells, tk_cells, tk_fold]) | (with_reducible refine OKr_go ?_; simp [-cellOK, qy_cells, tk_cells, tk_fold]))); repeat' (first | refine awp_seq ?_ | refine awp_block ?_ | (refine awp_skip ?_; try simp) | (refine awp_exit ?_; try simp) | (refine awp_ret ?_; try simp) | (refine retP_same (by simp) ?_; simp) | (refine retP_no (by simp) (by simp [noIds]) (by repeat (first | assumption | exact Ext.refl _ | refine ext_new' ?_ | refine Ext.setF ?_ (by first | assumption | (simp [new_nx', St.set, fresh_none]; done) | exact ext_fresh (by assumption)))) ?_; simp [-cellOK, qy_cells, tk_cells, tk_fold, new_m, set_m, new_nx']) | (refine awp_reg ?_; simp [-cellOK, qy_cells, tk_cells, tk_fold]) | (refine awp_drawT (fun _ => false) mixed (by decide +kernel) ?_; simp [-cellOK, qy_cells, tk_cells, tk_fold]) | (refine guarded_split ?_ ?_ <;> (intro hg; simp only [hg]; simp [-cellOK, qy_cells, tk_cells, tk_fold])) | (apply awp_cond_t; focus (simp [-cellOK, qy_cells, tk_cells, tk_fold]; done)) | (apply awp_cond_f; focus (simp [-cellOK, qy_cells, tk_cells, tk_fold]; done)) | (refine awp_cond ?_; simp [-cellOK, qy_cells, tk_cells, tk_fold]; refine ⟨?_, ?_⟩ <;> intro hc) | (refine awp_drawT isCallO mixed (by decide +kernel) ?_; simp [-cellOK, qy_cells, tk_cells, tk_fold]) | (refine PCalls.use (h) ?_; simp [-cellOK, qy_cells, tk_cells, tk_fold]) | (refine Or.inl ⟨_, Or.inl (h), ?_⟩; simp [-cellOK, qy_cells, tk_cells, tk_fold]) | fail)
theorem brk1_calls (q : Qy) (t u : Tk) (f g : Bool) : PCalls Try.prog 75 [qyAV q, tkAV t f, tkAV u g] (.raw (.bool (decide (t.out = 4)))) := by
  refine pbody Try.func75 rfl (N := 10) rfl rfl (by simp) (by simp [noIds]) fun σ => ?_
  (try (first | (with_reducible refine dops_go ?_; simp [-cellOK, qy_cells, tk_cells, tk_fold]) | (with_reducible refine OKv_go ?_; simp [-cellOK, qy_cells, tk_cells, tk_fold]) | (with_reducible refine OKr_go ?_; simp [-cellOK, qy_cells, tk_cells, tk_fold]))); repeat' (first | refine awp_seq ?_ | refine awp_block ?_ | (refine awp_skip ?_; try simp) | (refine awp_exit ?_; try simp) | (refine awp_ret ?_; try simp) | (refine retP_same (by simp) ?_; simp) | (refine retP_no (by simp) (by simp [noIds]) (by repeat (first | assumption | exact Ext.refl _ | refine ext_new' ?_ | refine Ext.setF ?_ (by first | assumption | (simp [new_nx', St.set, fresh_none]; done) | exact ext_fresh (by assumption)))) ?_; simp [-cellOK, qy_cells, tk_cells, tk_fold, new_m, set_m, new_nx']) | (refine awp_reg ?_; simp [-cellOK, qy_cells, tk_cells, tk_fold]) | (refine awp_drawT (fun _ => false) mixed (by decide +kernel) ?_; simp [-cellOK, qy_cells, tk_cells, tk_fold]) | (refine guarded_split ?_ ?_ <;> (intro hg; simp only [hg]; simp [-cellOK, qy_cells, tk_cells, tk_fold])) | (apply awp_cond_t; focus (simp [-cellOK, qy_cells, tk_cells, tk_fold]; done)) | (apply awp_cond_f; focus (simp [-cellOK, qy_cells, tk_cells, tk_fold]; done)) | (refine awp_cond ?_; simp [-cellOK, qy_cells, tk_cells, tk_fold]; refine ⟨?_, ?_⟩ <;> intro hc) | (refine awp_drawT isCallO mixed (by decide +kernel) ?_; simp [-cellOK, qy_cells, tk_cells, tk_fold]) | fail)
theorem brk2_calls (q : Qy) (t u : Tk) (f g : Bool) : PCalls Try.prog 76 [qyAV q, tkAV t f, tkAV u g] (.raw (.bool (decide (t.out = 0)))) := by
  refine pbody Try.func76 rfl (N := 10) rfl rfl (by simp) (by simp [noIds]) fun σ => ?_
  (try (first | (with_reducible refine dops_go ?_; simp [-cellOK, qy_cells, tk_cells, tk_fold]) | (with_reducible refine OKv_go ?_; simp [-cellOK, qy_cells, tk_cells, tk_fold]) | (with_reducible refine OKr_go ?_; simp [-cellOK, qy_cells, tk_cells, tk_fold]))); repeat' (first | refine awp_seq ?_ | refine awp_block ?_ | (refine awp_skip ?_; try simp) | (refine awp_exit ?_; try simp) | (refine awp_ret ?_; try simp) | (refine retP_same (by simp) ?_; simp) | (refine retP_no (by simp) (by simp [noIds]) (by repeat (first | assumption | exact Ext.refl _ | refine ext_new' ?_ | refine Ext.setF ?_ (by first | assumption | (simp [new_nx', St.set, fresh_none]; done) | exact ext_fresh (by assumption)))) ?_; simp [-cellOK, qy_cells, tk_cells, tk_fold, new_m, set_m, new_nx']) | (refine awp_reg ?_; simp [-cellOK, qy_cells, tk_cells, tk_fold]) | (refine awp_drawT (fun _ => false) mixed (by decide +kernel) ?_; simp [-cellOK, qy_cells, tk_cells, tk_fold]) | (refine guarded_split ?_ ?_ <;> (intro hg; simp only [hg]; simp [-cellOK, qy_cells, tk_cells, tk_fold])) | (apply awp_cond_t; focus (simp [-cellOK, qy_cells, tk_cells, tk_fold]; done)) | (apply awp_cond_f; focus (simp [-cellOK, qy_cells, tk_cells, tk_fold]; done)) | (refine awp_cond ?_; simp [-cellOK, qy_cells, tk_cells, tk_fold]; refine ⟨?_, ?_⟩ <;> intro hc) | (refine awp_drawT isCallO mixed (by decide +kernel) ?_; simp [-cellOK, qy_cells, tk_cells, tk_fold]) | fail)
theorem brk3_calls (q : Qy) (t u : Tk) (f g : Bool) (ht : t.path.length < 2 ^ 60) : PCalls Try.prog 77 [qyAV q, tkAV t f, tkAV u g] (.raw (.bool (comesB t q.b))) := by
  have h := contains_calls t.path f q.b ht
  unfold comesB
  refine pbody Try.func77 rfl (N := 12) rfl rfl (by simp) (by simp [noIds]) fun σ => ?_
  (try (first | (with_reducible refine dops_go ?_; simp [-cellOK, qy_cells, tk_cells, tk_fold]) | (with_reducible refine OKv_go ?_; simp [-cellOK, qy_cells, tk_cells, tk_fold]) | (with_reducible refine OKr_go ?_; simp [-cellOK, qy_cells, tk_cells, tk_fold]))); repeat' (first | refine awp_seq ?_ | refine awp_block ?_ | (refine awp_skip ?_; try simp) | (refine awp_exit ?_; try simp) | (refine awp_ret ?_; try simp) | (refine retP_same (by simp) ?_; simp) | (refine retP_no (by simp) (by simp [noIds]) (by repeat (first | assumption | exact Ext.refl _ | refine ext_new' ?_ | refine Ext.setF ?_ (by first | assumption | (simp [new_nx', St.set, fresh_none]; done) | exact ext_fresh (by assumption)))) ?_; simp [-cellOK, qy_cells, tk_cells, tk_fold, new_m, set_m, new_nx']) | (refine awp_reg ?_; simp [-cellOK, qy_cells, tk_cells, tk_fold]) | (refine awp_drawT (fun _ => false) mixed (by decide +kernel) ?_; simp [-cellOK, qy_cells, tk_cells, tk_fold]) | (refine guarded_split ?_ ?_ <;> (intro hg; simp only [hg]; simp [-cellOK, qy_cells, tk_cells, tk_fold])) | (apply awp_cond_t; focus (simp [-cellOK, qy_cells, tk_cells, tk_fold]; done)) | (apply awp_cond_f; focus (simp [-cellOK, qy_cells, tk_cells, tk_fold]; done)) | (refine awp_cond ?_; simp [-cellOK, qy_cells, tk_cells, tk_fold]; refine ⟨?_, ?_⟩ <;> intro hc) | (refine awp_drawT isCallO mixed (by decide +kernel) ?_; simp [-cellOK, qy_cells, tk_cells, tk_fold]) | (refine PCalls.use (h) ?_; simp [-cellOK, qy_cells, tk_cells, tk_fold]) | (refine Or.inl ⟨_, Or.inl (h), ?_⟩; simp [-cellOK, qy_cells, tk_cells, tk_fold]) | fail)
theorem brk4_calls (q : Qy) (t u : Tk) (f g : Bool) (ht : t.path.length < 2 ^ 60) : PCalls Try.prog 78 [qyAV q, tkAV t f, tkAV u g] (.raw (.bool (leavesB t q.b && !comesB t q.w))) := by
  have h0 := leaves_calls t f q.b
  have h := contains_calls t.path f q.w ht
  unfold comesB
  generalize (t.path.any fun x => decide (q.w = x)) = c at h ⊢
  generalize leavesB t q.b = b at h0 ⊢
  refine pbody Try.func78 rfl (N := 19) rfl rfl (by simp) (by simp [noIds]) fun σ => ?_
  cases b with
  | true => (try (first | (with_reducible refine dops_go ?_; simp [-cellOK, qy_cells, tk_cells, tk_fold]) | (with_reducible refine OKv_go ?_; simp [-cellOK, qy_cells, tk_cells, tk_fold]) | (with_reducible refine OKr_go ?_; simp [-cellOK, qy_cells, tk_cells, tk_fold]))); repeat' (first | refine awp_seq ?_ | refine awp_block ?_ | (refine awp_skip ?_; try simp) | (refine awp_exit ?_; try simp) | (refine awp_ret ?_; try simp) | (refine retP_same (by simp) ?_; simp) | (refine retP_no (by simp) (by simp [noIds]) (by repeat (first | assumption | exact Ext.refl _ | refine ext_new' ?_ | refine Ext.setF ?_ (by first | assumption | (simp [new_nx', St.set, fresh_none]; done) | exact ext_fresh (by assumption)))) ?_; simp [-cellOK, qy_cells, tk_cells, tk_fold, new_m, set_m, new_nx']) | (refine awp_reg ?_; simp [-cellOK, qy_cells, tk_cells, tk_fold]) | (refine awp_drawT (fun _ => false) mixed (by decide +kernel) ?_; simp [-cellOK, qy_cells, tk_cells, tk_fold]) | (refine guarded_split ?_ ?_ <;> (intro hg; simp only [hg]; simp [-cellOK, qy_cells, tk_cells, tk_fold])) | (apply awp_cond_t; focus (simp [-cellOK, qy_cells, tk_cells, tk_fold]; done)) | (apply awp_cond_f; focus (simp [-cellOK, qy_cells, tk_cells, tk_fold]; done)) | (refine awp_cond ?_; simp [-cellOK, qy_cells, tk_cells, tk_fold]; refine ⟨?_, ?_⟩ <;> intro hc) | (refine awp_drawT isCallO mixed (by decide +kernel) ?_; simp [-cellOK, qy_cells, tk_cells, tk_fold]) | (refine PCalls.use (h0) ?_; simp [-cellOK, qy_cells, tk_cells, tk_fold]) | (refine Or.inl ⟨_, Or.inl (h0), ?_⟩; simp [-cellOK, qy_cells, tk_cells, tk_fold]) | (refine PCalls.use (h) ?_; simp [-cellOK, qy_cells, tk_cells, tk_fold]) | (refine Or.inl ⟨_, Or.inl (h), ?_⟩; simp [-cellOK, qy_cells, tk_cells, tk_fold]) | fail)
  | false => (try (first | (with_reducible refine dops_go ?_; simp [-cellOK, qy_cells, tk_cells, tk_fold]) | (with_reducible refine OKv_go ?_; simp [-cellOK, qy_cells, tk_cells, tk_fold]) | (with_reducible refine OKr_go ?_; simp [-cellOK, qy_cells, tk_cells, tk_fold]))); repeat' (first | refine awp_seq ?_ | refine awp_block ?_ | (refine awp_skip ?_; try simp) | (refine awp_exit ?_; try simp) | (refine awp_ret ?_; try simp) | (refine retP_same (by simp) ?_; simp) | (refine retP_no (by simp) (by simp [noIds]) (by repeat (first | assumption | exact Ext.refl _ | refine ext_new' ?_ | refine Ext.setF ?_ (by first | assumption | (simp [new_nx', St.set, fresh_none]; done) | exact ext_fresh (by assumption)))) ?_; simp [-cellOK, qy_cells, tk_cells, tk_fold, new_m, set_m, new_nx']) | (refine awp_reg ?_; simp [-cellOK, qy_cells, tk_cells, tk_fold]) | (refine awp_drawT (fun _ => false) mixed (by decide +kernel) ?_; simp [-cellOK, qy_cells, tk_cells, tk_fold]) | (refine guarded_split ?_ ?_ <;> (intro hg; simp only [hg]; simp [-cellOK, qy_cells, tk_cells, tk_fold])) | (apply awp_cond_t; focus (simp [-cellOK, qy_cells, tk_cells, tk_fold]; done)) | (apply awp_cond_f; focus (simp [-cellOK, qy_cells, tk_cells, tk_fold]; done)) | (refine awp_cond ?_; simp [-cellOK, qy_cells, tk_cells, tk_fold]; refine ⟨?_, ?_⟩ <;> intro hc) | (refine awp_drawT isCallO mixed (by decide +kernel) ?_; simp [-cellOK, qy_cells, tk_cells, tk_fold]) | (refine PCalls.use (h0) ?_; simp [-cellOK, qy_cells, tk_cells, tk_fold]) | (refine Or.inl ⟨_, Or.inl (h0), ?_⟩; simp [-cellOK, qy_cells, tk_cells, tk_fold]) | (refine PCalls.use (h) ?_; simp [-cellOK, qy_cells, tk_cells, tk_fold]) | (refine Or.inl ⟨_, Or.inl (h), ?_⟩; simp [-cellOK, qy_cells, tk_cells, tk_fold]) | fail)
theorem brk5_calls (q : Qy) (t u : Tk) (f g : Bool) (ht : t.path.length < 2 ^ 60) (hu : u.path.length < 2 ^ 60) : PCalls Try.prog 79 [qyAV q, tkAV t f, tkAV u g] (.raw (.bool (!decide (t = u)))) := by
  have h := tkSame_calls t u f g ht hu
  generalize decide (t = u) = b at h ⊢
  refine pbody Try.func79 rfl (N := 11) rfl rfl (by simp) (by simp [noIds]) fun σ => ?_
  (try (first | (with_reducible refine dops_go ?_; simp [-cellOK, qy_cells, tk_cells, tk_fold]) | (with_reducible refine OKv_go ?_; simp [-cellOK, qy_cells, tk_cells, tk_fold]) | (with_reducible refine OKr_go ?_; simp [-cellOK, qy_cells, tk_cells, tk_fold]))); repeat' (first | refine awp_seq ?_ | refine awp_block ?_ | (refine awp_skip ?_; try simp) | (refine awp_exit ?_; try simp) | (refine awp_ret ?_; try simp) | (refine retP_same (by simp) ?_; simp) | (refine retP_no (by simp) (by simp [noIds]) (by repeat (first | assumption | exact Ext.refl _ | refine ext_new' ?_ | refine Ext.setF ?_ (by first | assumption | (simp [new_nx', St.set, fresh_none]; done) | exact ext_fresh (by assumption)))) ?_; simp [-cellOK, qy_cells, tk_cells, tk_fold, new_m, set_m, new_nx']) | (refine awp_reg ?_; simp [-cellOK, qy_cells, tk_cells, tk_fold]) | (refine awp_drawT (fun _ => false) mixed (by decide +kernel) ?_; simp [-cellOK, qy_cells, tk_cells, tk_fold]) | (refine guarded_split ?_ ?_ <;> (intro hg; simp only [hg]; simp [-cellOK, qy_cells, tk_cells, tk_fold])) | (apply awp_cond_t; focus (simp [-cellOK, qy_cells, tk_cells, tk_fold]; done)) | (apply awp_cond_f; focus (simp [-cellOK, qy_cells, tk_cells, tk_fold]; done)) | (refine awp_cond ?_; simp [-cellOK, qy_cells, tk_cells, tk_fold]; refine ⟨?_, ?_⟩ <;> intro hc) | (refine awp_drawT isCallO mixed (by decide +kernel) ?_; simp [-cellOK, qy_cells, tk_cells, tk_fold]) | (refine PCalls.use (h) ?_; simp [-cellOK, qy_cells, tk_cells, tk_fold]) | (refine Or.inl ⟨_, Or.inl (h), ?_⟩; simp [-cellOK, qy_cells, tk_cells, tk_fold]) | fail)
def brkAV : AV := .agg [.fn (.func 73) [] [], .fn (.func 75) [] [], .fn (.func 76) [] [], .fn (.func 77) [] [], .fn (.func 78) [] [], .fn (.func 79) [] []]
theorem broken_calls : PCalls Try.prog 43 [] brkAV := by
  refine pbody Try.func43 rfl (N := 2) rfl rfl (by simp) (by simp [noIds, brkAV]) fun σ => ?_
  unfold brkAV
  have f0 : σ.m ⟨0, σ.nx 0, 6⟩ = none := fresh_none _ _ _
  (try (first | (with_reducible refine dops_go ?_; simp [-cellOK]) | (with_reducible refine OKv_go ?_; simp [-cellOK]) | (with_reducible refine OKr_go ?_; simp [-cellOK]))); repeat' (first | refine awp_seq ?_ | refine awp_block ?_ | (refine awp_skip ?_; try simp) | (refine awp_exit ?_; try simp) | (refine awp_ret ?_; try simp) | (refine retP_same (by simp) ?_; simp) | (refine retP_no (by simp) (by simp [noIds]) (by repeat (first | assumption | exact Ext.refl _ | refine ext_new' ?_ | refine Ext.setF ?_ (by first | assumption | (simp [new_nx', St.set, fresh_none]; done) | exact ext_fresh (by assumption)))) ?_; simp [-cellOK, new_m, set_m, new_nx']) | (refine awp_reg ?_; simp [-cellOK]) | (refine awp_drawT (fun _ => false) mixed (by decide +kernel) ?_; simp [-cellOK]) | (refine guarded_split ?_ ?_ <;> (intro hg; simp only [hg]; simp [-cellOK])) | (apply awp_cond_t; focus (simp [-cellOK]; done)) | (apply awp_cond_f; focus (simp [-cellOK]; done)) | (refine awp_cond ?_; simp [-cellOK]; refine ⟨?_, ?_⟩ <;> intro hc) | (refine awp_drawT isCallO mixed (by decide +kernel) ?_; simp [-cellOK]) | fail)
end Go.Proofs.Ytanimmdlgmkmkaa.Av


/- Queries: right ones, sources, what breaks one. -/
namespace Go.Proofs.Ytanimmdlgmkmkaa.Av
open Go
set_option linter.unusedSimpArgs false
set_option linter.unusedVariables false
set_option maxRecDepth 100000
set_option maxHeartbeats 4000000
set_option pp.maxSteps 600

/-- A call to which an owned object is given for good. -/
theorem PCalls.useFz {P : Program} {f : FuncId} {σ σ0 : St} {args args' : List AV} {r : AV} {K : AV → St → Prop} (j : Id) (h : PCalls P f args' r) (hj : σ0.m j = none) (hE : Ext σ0 σ) (ha : args.map (giveUp (σ.del j).m σ.m) = args')
    (k : ∀ τ, Ext σ0 τ → (∀ i o, i ≠ j → σ.m i = some o → τ.m i = some o) → (∀ s, σ.nx s ≤ τ.nx s) → K r τ) : ACalls P f args σ K := by
  refine ACalls.freeze j ?_
  rw [ha]
  refine h.use (k _ ⟨fun i o ho => ?_, hE.nx⟩ (fun i o hi ho => by rw [del_other hi]; exact ho) fun _ => Nat.le_refl _)
  rw [del_other (fun e => by rw [e, hj] at ho; cases ho)]; exact hE.m i o ho
def noOther (q : Qy) : Bool := q.other.toList == (ByteArray.toList ⟨#[]⟩)
def rightQ (n : Nw) (q : Qy) : Bool :=
  !(decide (q.kind < 0) || (decide (5 < q.kind) || decide (q.r.hi < q.r.lo))) && (!([q.a, q.b, q.w].any (noDev n)) && ((singleB q || (decide (q.a = 0) && decide (q.b = 0))) && ((decide (q.kind = 4) || decide (q.w = 0)) && (decide (q.kind = 5) || noOther q))))
theorem rightQ_calls (n : Nw) (f : Fl) (q : Qy) : PCalls Try.prog 37 [nwAV n f, qyAV q] (.raw (.bool (rightQ n q))) := by
  have hs := single_calls q
  have hc := intContains_calls (g := 65) (caps := [.pp (nwAV n f).cells 0]) (p := noDev n) [q.a, q.b, q.w] false (by simp) (fun d _ => noDev_calls n f d)
  unfold rightQ noOther
  generalize singleB q = sb at hs ⊢
  generalize [q.a, q.b, q.w].any (noDev n) = nb at hc ⊢
  obtain ⟨ob, hob⟩ : ∃ b, (q.other.toList == (ByteArray.toList ⟨#[]⟩)) = b := ⟨_, rfl⟩
  rw [hob]
  have hstr : ∀ op m, op = BinOp.eql → m = Value.string ⟨#[]⟩ → opBin Try.prog op 9 (.raw (.string q.other)) (.raw m) = some (.raw (.bool ob)) := fun op m h1 h2 => by
    subst h1; subst h2
    show Option.map AV.raw (strBin .eql q.other ⟨#[]⟩) = _
    simp only [strBin, hob, Option.map_some]
  have hstr := hstr .eql _ rfl rfl
  refine pbody Try.func37 rfl (N := 65) rfl rfl (by simp) (by simp [noIds]) fun σ => ?_
  repeat (refine awp_seq ?_)
  refine awp_reg ?_
  simp [-cellOK, nw_cells, qy_cells]
  refine awp_freeze ⟨2, σ.nx 2, 3⟩ ?_
  refine awp_freeze ⟨3, σ.nx 3, 7⟩ ?_
  generalize hτ : St.del _ _ = τ
  generalize hA : (fun t => giveUp _ _ _) = A
  have a2 : A 2 = .pp (nwAV n f).cells 0 := by rw [← hA, ← hτ]; simp [giveUp, St.new, St.del, nw_cells]
  have a3 : A 3 = .pp (qyAV q).cells 0 := by rw [← hA, ← hτ]; simp [giveUp, St.new, St.del, nw_cells, qy_cells]
  have hE : Ext σ τ := by
    rw [← hτ]
    refine ⟨fun i o h => ?_, fun s => ?_⟩
    · have q1 : i ≠ ⟨2, σ.nx 2, 3⟩ := fun e => by rw [e, fresh_none] at h; cases h
      have q2 : i ≠ ⟨3, σ.nx 3, 7⟩ := fun e => by rw [e, fresh_none] at h; cases h
      simp [St.del, St.new, q1, q2, h]
    · simp only [St.del, St.new]
      repeat' split
      all_goals omega
  clear hτ hA
  by_cases k0 : q.kind < 0
  · (try (first | (with_reducible refine dops_go ?_; simp [-cellOK, a2, a3, nw_cells, qy_cells, k0]) | (with_reducible refine OKv_go ?_; simp [-cellOK, a2, a3, nw_cells, qy_cells, k0]) | (with_reducible refine OKr_go ?_; simp [-cellOK, a2, a3, nw_cells, qy_cells, k0]))); repeat' (first | refine awp_seq ?_ | refine awp_block ?_ | (refine awp_skip ?_; try simp) | (refine awp_exit ?_; try simp) | (refine awp_ret ?_; try simp) | (refine retP_same (by simp) ?_; simp) | (refine retP_no (by simp) (by simp [noIds]) (by repeat (first | assumption | exact Ext.refl _ | refine ext_new' ?_ | refine Ext.setF ?_ (by first | assumption | (simp [new_nx', St.set, fresh_none]; done) | exact ext_fresh (by assumption)))) ?_; simp [-cellOK, a2, a3, nw_cells, qy_cells, k0, new_m, set_m, new_nx']) | (refine awp_reg ?_; simp [-cellOK, a2, a3, nw_cells, qy_cells, k0]) | (refine awp_drawT (fun _ => false) mixed (by decide +kernel) ?_; simp [-cellOK, a2, a3, nw_cells, qy_cells, k0]) | (refine guarded_split ?_ ?_ <;> (intro hg; simp only [hg]; simp [-cellOK, a2, a3, nw_cells, qy_cells, k0])) | (apply awp_cond_t; focus (simp [-cellOK, a2, a3, nw_cells, qy_cells, k0]; done)) | (apply awp_cond_f; focus (simp [-cellOK, a2, a3, nw_cells, qy_cells, k0]; done)) | (refine awp_cond ?_; simp [-cellOK, a2, a3, nw_cells, qy_cells, k0]; refine ⟨?_, ?_⟩ <;> intro hc) | (refine awp_drawT isCallO mixed (by decide +kernel) ?_; simp [-cellOK, a2, a3, nw_cells, qy_cells, k0]) | fail)
  by_cases k1 : 5 < q.kind
  · (try (first | (with_reducible refine dops_go ?_; simp [-cellOK, a2, a3, nw_cells, qy_cells, k0, k1]) | (with_reducible refine OKv_go ?_; simp [-cellOK, a2, a3, nw_cells, qy_cells, k0, k1]) | (with_reducible refine OKr_go ?_; simp [-cellOK, a2, a3, nw_cells, qy_cells, k0, k1]))); repeat' (first | refine awp_seq ?_ | refine awp_block ?_ | (refine awp_skip ?_; try simp) | (refine awp_exit ?_; try simp) | (refine awp_ret ?_; try simp) | (refine retP_same (by simp) ?_; simp) | (refine retP_no (by simp) (by simp [noIds]) (by repeat (first | assumption | exact Ext.refl _ | refine ext_new' ?_ | refine Ext.setF ?_ (by first | assumption | (simp [new_nx', St.set, fresh_none]; done) | exact ext_fresh (by assumption)))) ?_; simp [-cellOK, a2, a3, nw_cells, qy_cells, k0, k1, new_m, set_m, new_nx']) | (refine awp_reg ?_; simp [-cellOK, a2, a3, nw_cells, qy_cells, k0, k1]) | (refine awp_drawT (fun _ => false) mixed (by decide +kernel) ?_; simp [-cellOK, a2, a3, nw_cells, qy_cells, k0, k1]) | (refine guarded_split ?_ ?_ <;> (intro hg; simp only [hg]; simp [-cellOK, a2, a3, nw_cells, qy_cells, k0, k1])) | (apply awp_cond_t; focus (simp [-cellOK, a2, a3, nw_cells, qy_cells, k0, k1]; done)) | (apply awp_cond_f; focus (simp [-cellOK, a2, a3, nw_cells, qy_cells, k0, k1]; done)) | (refine awp_cond ?_; simp [-cellOK, a2, a3, nw_cells, qy_cells, k0, k1]; refine ⟨?_, ?_⟩ <;> intro hc) | (refine awp_drawT isCallO mixed (by decide +kernel) ?_; simp [-cellOK, a2, a3, nw_cells, qy_cells, k0, k1]) | fail)
  by_cases k2 : q.r.hi < q.r.lo
  · (try (first | (with_reducible refine dops_go ?_; simp [-cellOK, a2, a3, nw_cells, qy_cells, k0, k1, k2]) | (with_reducible refine OKv_go ?_; simp [-cellOK, a2, a3, nw_cells, qy_cells, k0, k1, k2]) | (with_reducible refine OKr_go ?_; simp [-cellOK, a2, a3, nw_cells, qy_cells, k0, k1, k2]))); repeat' (first | refine awp_seq ?_ | refine awp_block ?_ | (refine awp_skip ?_; try simp) | (refine awp_exit ?_; try simp) | (refine awp_ret ?_; try simp) | (refine retP_same (by simp) ?_; simp) | (refine retP_no (by simp) (by simp [noIds]) (by repeat (first | assumption | exact Ext.refl _ | refine ext_new' ?_ | refine Ext.setF ?_ (by first | assumption | (simp [new_nx', St.set, fresh_none]; done) | exact ext_fresh (by assumption)))) ?_; simp [-cellOK, a2, a3, nw_cells, qy_cells, k0, k1, k2, new_m, set_m, new_nx']) | (refine awp_reg ?_; simp [-cellOK, a2, a3, nw_cells, qy_cells, k0, k1, k2]) | (refine awp_drawT (fun _ => false) mixed (by decide +kernel) ?_; simp [-cellOK, a2, a3, nw_cells, qy_cells, k0, k1, k2]) | (refine guarded_split ?_ ?_ <;> (intro hg; simp only [hg]; simp [-cellOK, a2, a3, nw_cells, qy_cells, k0, k1, k2])) | (apply awp_cond_t; focus (simp [-cellOK, a2, a3, nw_cells, qy_cells, k0, k1, k2]; done)) | (apply awp_cond_f; focus (simp [-cellOK, a2, a3, nw_cells, qy_cells, k0, k1, k2]; done)) | (refine awp_cond ?_; simp [-cellOK, a2, a3, nw_cells, qy_cells, k0, k1, k2]; refine ⟨?_, ?_⟩ <;> intro hc) | (refine awp_drawT isCallO mixed (by decide +kernel) ?_; simp [-cellOK, a2, a3, nw_cells, qy_cells, k0, k1, k2]) | fail)
  (try (first | (with_reducible refine dops_go ?_; simp [-cellOK, a2, a3, nw_cells, qy_cells, k0, k1, k2]) | (with_reducible refine OKv_go ?_; simp [-cellOK, a2, a3, nw_cells, qy_cells, k0, k1, k2]) | (with_reducible refine OKr_go ?_; simp [-cellOK, a2, a3, nw_cells, qy_cells, k0, k1, k2]))); repeat' (first | refine awp_seq ?_ | refine awp_block ?_ | (refine awp_skip ?_; try simp) | (refine awp_exit ?_; try simp) | (refine awp_ret ?_; try simp) | (refine retP_same (by simp) ?_; simp) | (refine retP_no (by simp) (by simp [noIds]) (by repeat (first | assumption | exact Ext.refl _ | refine ext_new' ?_ | refine Ext.setF ?_ (by first | assumption | (simp [new_nx', St.set, fresh_none]; done) | exact ext_fresh (by assumption)))) ?_; simp [-cellOK, a2, a3, nw_cells, qy_cells, k0, k1, k2, new_m, set_m, new_nx']) | (refine awp_reg ?_; simp [-cellOK, a2, a3, nw_cells, qy_cells, k0, k1, k2]) | (refine awp_drawT (fun _ => false) mixed (by decide +kernel) ?_; simp [-cellOK, a2, a3, nw_cells, qy_cells, k0, k1, k2]) | (refine guarded_split ?_ ?_ <;> (intro hg; simp only [hg]; simp [-cellOK, a2, a3, nw_cells, qy_cells, k0, k1, k2])) | (apply awp_cond_t; focus (simp [-cellOK, a2, a3, nw_cells, qy_cells, k0, k1, k2]; done)) | (apply awp_cond_f; focus (simp [-cellOK, a2, a3, nw_cells, qy_cells, k0, k1, k2]; done)) | (refine awp_cond ?_; simp [-cellOK, a2, a3, nw_cells, qy_cells, k0, k1, k2]; refine ⟨?_, ?_⟩ <;> intro hc) | (refine awp_drawT isCallO mixed (by decide +kernel) ?_; simp [-cellOK, a2, a3, nw_cells, qy_cells, k0, k1, k2]) | fail)
  refine hc.useFz (σ0 := σ) ⟨29, τ.nx 29, 1⟩ (ext_fresh hE) (by repeat (first | assumption | exact Ext.refl _ | refine ext_new' ?_ | refine Ext.setF ?_ (by first | assumption | (simp [new_nx', St.set, fresh_none]; done) | exact ext_fresh (by assumption)))) (by simp [giveUp, new_m, nw_cells, intsAV, iAV]) ?_
  intro τ' hE' _ _
  cases nb with
  | true => (try (first | (with_reducible refine dops_go ?_; simp [-cellOK, a2, a3, nw_cells, qy_cells, k0, k1, k2]) | (with_reducible refine OKv_go ?_; simp [-cellOK, a2, a3, nw_cells, qy_cells, k0, k1, k2]) | (with_reducible refine OKr_go ?_; simp [-cellOK, a2, a3, nw_cells, qy_cells, k0, k1, k2]))); repeat' (first | refine awp_seq ?_ | refine awp_block ?_ | (refine awp_skip ?_; try simp) | (refine awp_exit ?_; try simp) | (refine awp_ret ?_; try simp) | (refine retP_same (by simp) ?_; simp) | (refine retP_no (by simp) (by simp [noIds]) (by repeat (first | assumption | exact Ext.refl _ | refine ext_new' ?_ | refine Ext.setF ?_ (by first | assumption | (simp [new_nx', St.set, fresh_none]; done) | exact ext_fresh (by assumption)))) ?_; simp [-cellOK, a2, a3, nw_cells, qy_cells, k0, k1, k2, new_m, set_m, new_nx']) | (refine awp_reg ?_; simp [-cellOK, a2, a3, nw_cells, qy_cells, k0, k1, k2]) | (refine awp_drawT (fun _ => false) mixed (by decide +kernel) ?_; simp [-cellOK, a2, a3, nw_cells, qy_cells, k0, k1, k2]) | (refine guarded_split ?_ ?_ <;> (intro hg; simp only [hg]; simp [-cellOK, a2, a3, nw_cells, qy_cells, k0, k1, k2])) | (apply awp_cond_t; focus (simp [-cellOK, a2, a3, nw_cells, qy_cells, k0, k1, k2]; done)) | (apply awp_cond_f; focus (simp [-cellOK, a2, a3, nw_cells, qy_cells, k0, k1, k2]; done)) | (refine awp_cond ?_; simp [-cellOK, a2, a3, nw_cells, qy_cells, k0, k1, k2]; refine ⟨?_, ?_⟩ <;> intro hc) | (refine awp_drawT isCallO mixed (by decide +kernel) ?_; simp [-cellOK, a2, a3, nw_cells, qy_cells, k0, k1, k2]) | fail)
  | false =>
    (try (first | (with_reducible refine dops_go ?_; simp [-cellOK, a2, a3, nw_cells, qy_cells, qy_fold, k0, k1, k2]) | (with_reducible refine OKv_go ?_; simp [-cellOK, a2, a3, nw_cells, qy_cells, qy_fold, k0, k1, k2]) | (with_reducible refine OKr_go ?_; simp [-cellOK, a2, a3, nw_cells, qy_cells, qy_fold, k0, k1, k2]))); repeat' (first | refine awp_seq ?_ | refine awp_block ?_ | (refine awp_skip ?_; try simp) | (refine awp_exit ?_; try simp) | (refine awp_ret ?_; try simp) | (refine retP_same (by simp) ?_; simp) | (refine retP_no (by simp) (by simp [noIds]) (by repeat (first | assumption | exact Ext.refl _ | refine ext_new' ?_ | refine Ext.setF ?_ (by first | assumption | (simp [new_nx', St.set, fresh_none]; done) | exact ext_fresh (by assumption)))) ?_; simp [-cellOK, a2, a3, nw_cells, qy_cells, qy_fold, k0, k1, k2, new_m, set_m, new_nx']) | (refine awp_reg ?_; simp [-cellOK, a2, a3, nw_cells, qy_cells, qy_fold, k0, k1, k2]) | (refine awp_drawT (fun _ => false) mixed (by decide +kernel) ?_; simp [-cellOK, a2, a3, nw_cells, qy_cells, qy_fold, k0, k1, k2]) | (refine guarded_split ?_ ?_ <;> (intro hg; simp only [hg]; simp [-cellOK, a2, a3, nw_cells, qy_cells, qy_fold, k0, k1, k2])) | (apply awp_cond_t; focus (simp [-cellOK, a2, a3, nw_cells, qy_cells, qy_fold, k0, k1, k2]; done)) | (apply awp_cond_f; focus (simp [-cellOK, a2, a3, nw_cells, qy_cells, qy_fold, k0, k1, k2]; done)) | (refine awp_cond ?_; simp [-cellOK, a2, a3, nw_cells, qy_cells, qy_fold, k0, k1, k2]; refine ⟨?_, ?_⟩ <;> intro hc) | (refine awp_drawT isCallO mixed (by decide +kernel) ?_; simp [-cellOK, a2, a3, nw_cells, qy_cells, qy_fold, k0, k1, k2]) | fail)
    refine hs.use ?_
    cases sb <;> by_cases qa : q.a = 0 <;> by_cases qb : q.b = 0 <;> by_cases k4 : q.kind = 4 <;> by_cases qw : q.w = 0 <;> by_cases k5 : q.kind = 5 <;> (first | (exfalso; omega) | ((try (first | (with_reducible refine dops_go ?_; simp [-cellOK, a2, a3, nw_cells, qy_cells, k0, k1, k2, qa, qb, qw, k4, k5, -opBin, opBin_raw, hstr]) | (with_reducible refine OKv_go ?_; simp [-cellOK, a2, a3, nw_cells, qy_cells, k0, k1, k2, qa, qb, qw, k4, k5, -opBin, opBin_raw, hstr]) | (with_reducible refine OKr_go ?_; simp [-cellOK, a2, a3, nw_cells, qy_cells, k0, k1, k2, qa, qb, qw, k4, k5, -opBin, opBin_raw, hstr]))); repeat' (first | refine awp_seq ?_ | refine awp_block ?_ | (refine awp_skip ?_; try simp) | (refine awp_exit ?_; try simp) | (refine awp_ret ?_; try simp) | (refine retP_same (by simp) ?_; simp) | (refine retP_no (by simp) (by simp [noIds]) (by repeat (first | assumption | exact Ext.refl _ | refine ext_new' ?_ | refine Ext.setF ?_ (by first | assumption | (simp [new_nx', St.set, fresh_none]; done) | exact ext_fresh (by assumption)))) ?_; simp [-cellOK, a2, a3, nw_cells, qy_cells, k0, k1, k2, qa, qb, qw, k4, k5, -opBin, opBin_raw, hstr, new_m, set_m, new_nx']) | (refine awp_reg ?_; simp [-cellOK, a2, a3, nw_cells, qy_cells, k0, k1, k2, qa, qb, qw, k4, k5, -opBin, opBin_raw, hstr]) | (refine awp_drawT (fun _ => false) mixed (by decide +kernel) ?_; simp [-cellOK, a2, a3, nw_cells, qy_cells, k0, k1, k2, qa, qb, qw, k4, k5, -opBin, opBin_raw, hstr]) | (refine guarded_split ?_ ?_ <;> (intro hg; simp only [hg]; simp [-cellOK, a2, a3, nw_cells, qy_cells, k0, k1, k2, qa, qb, qw, k4, k5, -opBin, opBin_raw, hstr])) | (apply awp_cond_t; focus (simp [-cellOK, a2, a3, nw_cells, qy_cells, k0, k1, k2, qa, qb, qw, k4, k5, -opBin, opBin_raw, hstr]; done)) | (apply awp_cond_f; focus (simp [-cellOK, a2, a3, nw_cells, qy_cells, k0, k1, k2, qa, qb, qw, k4, k5, -opBin, opBin_raw, hstr]; done)) | (refine awp_cond ?_; simp [-cellOK, a2, a3, nw_cells, qy_cells, k0, k1, k2, qa, qb, qw, k4, k5, -opBin, opBin_raw, hstr]; refine ⟨?_, ?_⟩ <;> intro hc) | (refine awp_drawT isCallO mixed (by decide +kernel) ?_; simp [-cellOK, a2, a3, nw_cells, qy_cells, k0, k1, k2, qa, qb, qw, k4, k5, -opBin, opBin_raw, hstr]) | fail)))
def sourcesQ (n : Nw) (q : Qy) : List Int := if singleB q = true then [q.a] else (List.range n.t.ports.length).map fun i : Nat => (i : Int)
theorem sources_calls (n : Nw) (f : Fl) (q : Qy) (hl : n.t.ports.length < 2 ^ 44) : PCalls Try.prog 18 [nwAV n f, qyAV q] (intsAV (sourcesQ n q) false) := by
  have hs := single_calls q
  unfold sourcesQ
  generalize singleB q = sb at hs ⊢
  refine pbody Try.func18 rfl (N := 25) rfl rfl (by simp) (by simp [noIds]) fun σ => ?_
  have hp : ∀ m, opLen Try.prog m 22 (intsAV n.t.ports f.p) = some (.raw (.int .i64 n.t.ports.length)) := fun m => by simp [intsAV]
  cases sb with
  | true =>
    (try (first | (with_reducible refine dops_go ?_; simp [-cellOK, nw_cells, qy_cells, qy_fold, new_m, new_nx']) | (with_reducible refine OKv_go ?_; simp [-cellOK, nw_cells, qy_cells, qy_fold, new_m, new_nx']) | (with_reducible refine OKr_go ?_; simp [-cellOK, nw_cells, qy_cells, qy_fold, new_m, new_nx']))); repeat' (first | refine awp_seq ?_ | refine awp_block ?_ | (refine awp_skip ?_; try simp) | (refine awp_exit ?_; try simp) | (refine awp_ret ?_; try simp) | (refine awp_reg ?_; simp [-cellOK, nw_cells, qy_cells, qy_fold, new_m, new_nx']) | (refine awp_drawT (fun _ => false) mixed (by decide +kernel) ?_; simp [-cellOK, nw_cells, qy_cells, qy_fold, new_m, new_nx']) | (refine guarded_split ?_ ?_ <;> (intro hg; simp only [hg]; simp [-cellOK, nw_cells, qy_cells, qy_fold, new_m, new_nx'])) | (apply awp_cond_t; focus (simp [-cellOK, nw_cells, qy_cells, qy_fold, new_m, new_nx']; done)) | (apply awp_cond_f; focus (simp [-cellOK, nw_cells, qy_cells, qy_fold, new_m, new_nx']; done)) | (refine awp_cond ?_; simp [-cellOK, nw_cells, qy_cells, qy_fold, new_m, new_nx']; refine ⟨?_, ?_⟩ <;> intro hc) | (refine awp_drawT isCallO mixed (by decide +kernel) ?_; simp [-cellOK, nw_cells, qy_cells, qy_fold, new_m, new_nx']) | (refine PCalls.use (hs) ?_; simp [-cellOK, nw_cells, qy_cells, qy_fold, new_m, new_nx']) | (refine Or.inl ⟨_, Or.inl (hs), ?_⟩; simp [-cellOK, nw_cells, qy_cells, qy_fold, new_m, new_nx']) | fail)
    refine retP_give (x := .rs ⟨11, σ.nx 11, 1⟩ 0 1) (.inr rfl) (by repeat (first | assumption | exact Ext.refl _ | refine ext_new' ?_ | refine Ext.setF ?_ (by first | assumption | (simp [new_nx', St.set, fresh_none]; done) | exact ext_fresh (by assumption)))) ?_ ?_
    · simp [new_nx']
    · simp [giveUps, giveUp, fresh_none, new_m, new_nx', intsAV, iAV]
  | false =>
    (try (first | (with_reducible refine dops_go ?_; simp [-cellOK, nw_cells, qy_cells, qy_fold, new_m, new_nx', -opLen, hp]) | (with_reducible refine OKv_go ?_; simp [-cellOK, nw_cells, qy_cells, qy_fold, new_m, new_nx', -opLen, hp]) | (with_reducible refine OKr_go ?_; simp [-cellOK, nw_cells, qy_cells, qy_fold, new_m, new_nx', -opLen, hp]))); repeat' (first | refine awp_seq ?_ | refine awp_block ?_ | (refine awp_skip ?_; try simp) | (refine awp_exit ?_; try simp) | (refine awp_ret ?_; try simp) | (refine retP_same (by simp) ?_; simp) | (refine retP_no (by simp) (by simp [noIds]) (by repeat (first | assumption | exact Ext.refl _ | refine ext_new' ?_ | refine Ext.setF ?_ (by first | assumption | (simp [new_nx', St.set, fresh_none]; done) | exact ext_fresh (by assumption)))) ?_; simp [-cellOK, nw_cells, qy_cells, qy_fold, new_m, new_nx', -opLen, hp, new_m, set_m, new_nx']) | (refine awp_reg ?_; simp [-cellOK, nw_cells, qy_cells, qy_fold, new_m, new_nx', -opLen, hp]) | (refine awp_drawT (fun _ => false) mixed (by decide +kernel) ?_; simp [-cellOK, nw_cells, qy_cells, qy_fold, new_m, new_nx', -opLen, hp]) | (refine guarded_split ?_ ?_ <;> (intro hg; simp only [hg]; simp [-cellOK, nw_cells, qy_cells, qy_fold, new_m, new_nx', -opLen, hp])) | (apply awp_cond_t; focus (simp [-cellOK, nw_cells, qy_cells, qy_fold, new_m, new_nx', -opLen, hp]; done)) | (apply awp_cond_f; focus (simp [-cellOK, nw_cells, qy_cells, qy_fold, new_m, new_nx', -opLen, hp]; done)) | (refine awp_cond ?_; simp [-cellOK, nw_cells, qy_cells, qy_fold, new_m, new_nx', -opLen, hp]; refine ⟨?_, ?_⟩ <;> intro hc) | (refine awp_drawT isCallO mixed (by decide +kernel) ?_; simp [-cellOK, nw_cells, qy_cells, qy_fold, new_m, new_nx', -opLen, hp]) | (refine PCalls.use (hs) ?_; simp [-cellOK, nw_cells, qy_cells, qy_fold, new_m, new_nx', -opLen, hp]) | (refine Or.inl ⟨_, Or.inl (hs), ?_⟩; simp [-cellOK, nw_cells, qy_cells, qy_fold, new_m, new_nx', -opLen, hp]) | fail)
    refine awp_loopH (fun n' B ρ => Ext σ ρ ∧ B 15 = .raw (.int .i64 n.t.ports.length) ∧ ∃ (i : Nat) (v : AV), B 16 = .raw (.int .i64 i) ∧ i ≤ n.t.ports.length ∧ n' = n.t.ports.length - i ∧ B 5 = v ∧ OwnL σ ρ 1 v (((List.range i).map fun i : Nat => (i : Int)).map iAV)) n.t.ports.length ?_ ?_
    · exact ⟨(by repeat (first | assumption | exact Ext.refl _ | refine ext_new' ?_ | refine Ext.setF ?_ (by first | assumption | (simp [new_nx', St.set, fresh_none]; done) | exact ext_fresh (by assumption)))), by simp, 0, .sl 0 [] true, by simp, by omega, by omega, by simp, .inl ⟨by simp, rfl⟩⟩
    rintro n' B ρ ⟨hE, a15, i, v, a16, hi, rfl, a5, hO⟩ I1 hI1
    by_cases hlt : i < n.t.ports.length
    · have w1 : IntKind.i64.wrap ((i : Int) + 1) = ((i + 1 : Nat) : Int) := by rw [wrap64 (by omega) (by omega)]; omega
      (try (first | (with_reducible refine dops_go ?_; simp [-cellOK, a5, a15, a16, hlt, w1, -opAppend]) | (with_reducible refine OKv_go ?_; simp [-cellOK, a5, a15, a16, hlt, w1, -opAppend]) | (with_reducible refine OKr_go ?_; simp [-cellOK, a5, a15, a16, hlt, w1, -opAppend]))); repeat' (first | refine awp_seq ?_ | refine awp_block ?_ | (refine awp_skip ?_; try simp) | (refine awp_exit ?_; try simp) | (refine awp_ret ?_; try simp) | (refine retP_same (by simp) ?_; simp) | (refine retP_no (by simp) (by simp [noIds]) (by repeat (first | assumption | exact Ext.refl _ | refine ext_new' ?_ | refine Ext.setF ?_ (by first | assumption | (simp [new_nx', St.set, fresh_none]; done) | exact ext_fresh (by assumption)))) ?_; simp [-cellOK, a5, a15, a16, hlt, w1, -opAppend, new_m, set_m, new_nx']) | (refine awp_reg ?_; simp [-cellOK, a5, a15, a16, hlt, w1, -opAppend]) | (refine awp_drawT (fun _ => false) mixed (by decide +kernel) ?_; simp [-cellOK, a5, a15, a16, hlt, w1, -opAppend]) | (refine guarded_split ?_ ?_ <;> (intro hg; simp only [hg]; simp [-cellOK, a5, a15, a16, hlt, w1, -opAppend])) | (apply awp_cond_t; focus (simp [-cellOK, a5, a15, a16, hlt, w1, -opAppend]; done)) | (apply awp_cond_f; focus (simp [-cellOK, a5, a15, a16, hlt, w1, -opAppend]; done)) | (refine awp_cond ?_; simp [-cellOK, a5, a15, a16, hlt, w1, -opAppend]; refine ⟨?_, ?_⟩ <;> intro hc) | (refine awp_drawT isCallO mixed (by decide +kernel) ?_; simp [-cellOK, a5, a15, a16, hlt, w1, -opAppend]) | fail)
      refine okr_append slt22 (σ0 := σ) (hO.ext (by repeat (first | assumption | exact Ext.refl _ | refine ext_new' ?_ | refine Ext.setF ?_ (by first | assumption | (simp [new_nx', St.set, fresh_none]; done) | exact ext_fresh (by assumption))))) (by repeat (first | assumption | exact Ext.refl _ | refine ext_new' ?_ | refine Ext.setF ?_ (by first | assumption | (simp [new_nx', St.set, fresh_none]; done) | exact ext_fresh (by assumption)))) (ys := [iAV i]) (by simp [new_m, new_nx', iAV]) (.inr rfl) (by simp [iAV]) (by simp; omega) ?_
      intro v' τ' hO' hE' _ _
      (try (first | (with_reducible refine dops_go ?_; simp [-cellOK, a5, a15, a16, w1]) | (with_reducible refine OKv_go ?_; simp [-cellOK, a5, a15, a16, w1]) | (with_reducible refine OKr_go ?_; simp [-cellOK, a5, a15, a16, w1]))); repeat' (first | refine awp_seq ?_ | refine awp_block ?_ | (refine awp_skip ?_; try simp) | (refine awp_exit ?_; try simp) | (refine awp_ret ?_; try simp) | (refine retP_same (by simp) ?_; simp) | (refine retP_no (by simp) (by simp [noIds]) (by repeat (first | assumption | exact Ext.refl _ | refine ext_new' ?_ | refine Ext.setF ?_ (by first | assumption | (simp [new_nx', St.set, fresh_none]; done) | exact ext_fresh (by assumption)))) ?_; simp [-cellOK, a5, a15, a16, w1, new_m, set_m, new_nx']) | (refine awp_reg ?_; simp [-cellOK, a5, a15, a16, w1]) | (refine awp_drawT (fun _ => false) mixed (by decide +kernel) ?_; simp [-cellOK, a5, a15, a16, w1]) | (refine guarded_split ?_ ?_ <;> (intro hg; simp only [hg]; simp [-cellOK, a5, a15, a16, w1])) | (apply awp_cond_t; focus (simp [-cellOK, a5, a15, a16, w1]; done)) | (apply awp_cond_f; focus (simp [-cellOK, a5, a15, a16, w1]; done)) | (refine awp_cond ?_; simp [-cellOK, a5, a15, a16, w1]; refine ⟨?_, ?_⟩ <;> intro hc) | (refine awp_drawT isCallO mixed (by decide +kernel) ?_; simp [-cellOK, a5, a15, a16, w1]) | fail)
      refine hI1 (n.t.ports.length - (i + 1)) _ _ (by omega) ⟨hE', by simp [a15], i + 1, v', by simp, by omega, rfl, by simp, ?_⟩
      rw [List.range_succ, List.map_append, List.map_append]
      exact hO'
    · have : i = n.t.ports.length := by omega
      subst this
      (try (first | (with_reducible refine dops_go ?_; simp [-cellOK, a5, a15, a16]) | (with_reducible refine OKv_go ?_; simp [-cellOK, a5, a15, a16]) | (with_reducible refine OKr_go ?_; simp [-cellOK, a5, a15, a16]))); repeat' (first | refine awp_seq ?_ | refine awp_block ?_ | (refine awp_skip ?_; try simp) | (refine awp_exit ?_; try simp) | (refine awp_ret ?_; try simp) | (refine awp_reg ?_; simp [-cellOK, a5, a15, a16]) | (refine awp_drawT (fun _ => false) mixed (by decide +kernel) ?_; simp [-cellOK, a5, a15, a16]) | (refine guarded_split ?_ ?_ <;> (intro hg; simp only [hg]; simp [-cellOK, a5, a15, a16])) | (apply awp_cond_t; focus (simp [-cellOK, a5, a15, a16]; done)) | (apply awp_cond_f; focus (simp [-cellOK, a5, a15, a16]; done)) | (refine awp_cond ?_; simp [-cellOK, a5, a15, a16]; refine ⟨?_, ?_⟩ <;> intro hc) | (refine awp_drawT isCallO mixed (by decide +kernel) ?_; simp [-cellOK, a5, a15, a16]) | fail)
      exact retP_own (v := v) (.inr rfl) (by simp) hO hE
def breaksQ (q : Qy) (t u : Tk) : Bool :=
  if q.kind = 0 then !leavesB t q.b else if q.kind = 1 then decide (t.out = 4) else if q.kind = 2 then decide (t.out = 0) else if q.kind = 3 then comesB t q.b else if q.kind = 4 then leavesB t q.b && !comesB t q.w else if q.kind = 5 then !decide (t = u) else false
theorem breaks_calls (n m : Nw) (f g : Fl) (q : Qy) (t u : Tk) (ft fu : Bool) (ht : t.path.length < 2 ^ 60) (hu : u.path.length < 2 ^ 60) :
    PCalls Try.prog 17 [nwAV n f, nwAV m g, qyAV q, tkAV t ft, tkAV u fu] (.raw (.bool (breaksQ q t u))) := by
  have h0 := brk0_calls q t u ft fu
  have h1 := brk1_calls q t u ft fu
  have h2 := brk2_calls q t u ft fu
  have h3 := brk3_calls q t u ft fu ht
  have h4 := brk4_calls q t u ft fu ht
  have h5 := brk5_calls q t u ft fu ht hu
  have hb := broken_calls
  unfold brkAV at hb
  unfold breaksQ
  refine pbody Try.func17 rfl (N := 29) rfl rfl (by simp) (by simp [noIds]) fun σ => ?_
  by_cases k0 : q.kind < 0
  · rw [if_neg (by omega), if_neg (by omega), if_neg (by omega), if_neg (by omega), if_neg (by omega), if_neg (by omega)]
    have k0' : ¬ 0 ≤ q.kind := by omega
    (try (first | (with_reducible refine dops_go ?_; simp [-cellOK, nw_cells, qy_cells, tk_cells, k0']) | (with_reducible refine OKv_go ?_; simp [-cellOK, nw_cells, qy_cells, tk_cells, k0']) | (with_reducible refine OKr_go ?_; simp [-cellOK, nw_cells, qy_cells, tk_cells, k0']))); repeat' (first | refine awp_seq ?_ | refine awp_block ?_ | (refine awp_skip ?_; try simp) | (refine awp_exit ?_; try simp) | (refine awp_ret ?_; try simp) | (refine retP_same (by simp) ?_; simp) | (refine retP_no (by simp) (by simp [noIds]) (by repeat (first | assumption | exact Ext.refl _ | refine ext_new' ?_ | refine Ext.setF ?_ (by first | assumption | (simp [new_nx', St.set, fresh_none]; done) | exact ext_fresh (by assumption)))) ?_; simp [-cellOK, nw_cells, qy_cells, tk_cells, k0', new_m, set_m, new_nx']) | (refine awp_reg ?_; simp [-cellOK, nw_cells, qy_cells, tk_cells, k0']) | (refine awp_drawT (fun _ => false) mixed (by decide +kernel) ?_; simp [-cellOK, nw_cells, qy_cells, tk_cells, k0']) | (refine guarded_split ?_ ?_ <;> (intro hg; simp only [hg]; simp [-cellOK, nw_cells, qy_cells, tk_cells, k0'])) | (apply awp_cond_t; focus (simp [-cellOK, nw_cells, qy_cells, tk_cells, k0']; done)) | (apply awp_cond_f; focus (simp [-cellOK, nw_cells, qy_cells, tk_cells, k0']; done)) | (refine awp_cond ?_; simp [-cellOK, nw_cells, qy_cells, tk_cells, k0']; refine ⟨?_, ?_⟩ <;> intro hc) | (refine awp_drawT isCallO mixed (by decide +kernel) ?_; simp [-cellOK, nw_cells, qy_cells, tk_cells, k0']) | fail)
  have k0' : 0 ≤ q.kind := by omega
  by_cases k6 : q.kind < 6
  · have : q.kind = 0 ∨ q.kind = 1 ∨ q.kind = 2 ∨ q.kind = 3 ∨ q.kind = 4 ∨ q.kind = 5 := by omega
    rcases this with k | k | k | k | k | k
    · have hf : AV.agg [.raw (.int .i64 0), .raw (.int .i64 q.a), .raw (.int .i64 q.b), .raw (.int .i64 q.w), .raw (.int .u32 q.r.lo), .raw (.int .u32 q.r.hi), .raw (.string q.other)] = qyAV q := by rw [← k]; rfl
      rw [if_pos k]
      (try (first | (with_reducible refine dops_go ?_; simp [-cellOK, nw_cells, nw_fold, qy_cells, hf, tk_cells, tk_fold, k]) | (with_reducible refine OKv_go ?_; simp [-cellOK, nw_cells, nw_fold, qy_cells, hf, tk_cells, tk_fold, k]) | (with_reducible refine OKr_go ?_; simp [-cellOK, nw_cells, nw_fold, qy_cells, hf, tk_cells, tk_fold, k]))); repeat' (first | refine awp_seq ?_ | refine awp_block ?_ | (refine awp_skip ?_; try simp) | (refine awp_exit ?_; try simp) | (refine awp_ret ?_; try simp) | (refine retP_same (by simp) ?_; simp) | (refine retP_no (by simp) (by simp [noIds]) (by repeat (first | assumption | exact Ext.refl _ | refine ext_new' ?_ | refine Ext.setF ?_ (by first | assumption | (simp [new_nx', St.set, fresh_none]; done) | exact ext_fresh (by assumption)))) ?_; simp [-cellOK, nw_cells, nw_fold, qy_cells, hf, tk_cells, tk_fold, k, new_m, set_m, new_nx']) | (refine awp_reg ?_; simp [-cellOK, nw_cells, nw_fold, qy_cells, hf, tk_cells, tk_fold, k]) | (refine awp_drawT (fun _ => false) mixed (by decide +kernel) ?_; simp [-cellOK, nw_cells, nw_fold, qy_cells, hf, tk_cells, tk_fold, k]) | (refine guarded_split ?_ ?_ <;> (intro hg; simp only [hg]; simp [-cellOK, nw_cells, nw_fold, qy_cells, hf, tk_cells, tk_fold, k])) | (apply awp_cond_t; focus (simp [-cellOK, nw_cells, nw_fold, qy_cells, hf, tk_cells, tk_fold, k]; done)) | (apply awp_cond_f; focus (simp [-cellOK, nw_cells, nw_fold, qy_cells, hf, tk_cells, tk_fold, k]; done)) | (refine awp_cond ?_; simp [-cellOK, nw_cells, nw_fold, qy_cells, hf, tk_cells, tk_fold, k]; refine ⟨?_, ?_⟩ <;> intro hc) | (refine awp_drawT isCallO mixed (by decide +kernel) ?_; simp [-cellOK, nw_cells, nw_fold, qy_cells, hf, tk_cells, tk_fold, k]) | (refine PCalls.use (hb) ?_; simp [-cellOK, nw_cells, nw_fold, qy_cells, hf, tk_cells, tk_fold, k]) | (refine Or.inl ⟨_, Or.inl (hb), ?_⟩; simp [-cellOK, nw_cells, nw_fold, qy_cells, hf, tk_cells, tk_fold, k]) | (refine PCalls.use (h0) ?_; simp [-cellOK, nw_cells, nw_fold, qy_cells, hf, tk_cells, tk_fold, k]) | (refine Or.inl ⟨_, Or.inl (h0), ?_⟩; simp [-cellOK, nw_cells, nw_fold, qy_cells, hf, tk_cells, tk_fold, k]) | fail)
    · have hf : AV.agg [.raw (.int .i64 1), .raw (.int .i64 q.a), .raw (.int .i64 q.b), .raw (.int .i64 q.w), .raw (.int .u32 q.r.lo), .raw (.int .u32 q.r.hi), .raw (.string q.other)] = qyAV q := by rw [← k]; rfl
      rw [if_neg (by omega), if_pos k]
      (try (first | (with_reducible refine dops_go ?_; simp [-cellOK, nw_cells, nw_fold, qy_cells, hf, tk_cells, tk_fold, k]) | (with_reducible refine OKv_go ?_; simp [-cellOK, nw_cells, nw_fold, qy_cells, hf, tk_cells, tk_fold, k]) | (with_reducible refine OKr_go ?_; simp [-cellOK, nw_cells, nw_fold, qy_cells, hf, tk_cells, tk_fold, k]))); repeat' (first | refine awp_seq ?_ | refine awp_block ?_ | (refine awp_skip ?_; try simp) | (refine awp_exit ?_; try simp) | (refine awp_ret ?_; try simp) | (refine retP_same (by simp) ?_; simp) | (refine retP_no (by simp) (by simp [noIds]) (by repeat (first | assumption | exact Ext.refl _ | refine ext_new' ?_ | refine Ext.setF ?_ (by first | assumption | (simp [new_nx', St.set, fresh_none]; done) | exact ext_fresh (by assumption)))) ?_; simp [-cellOK, nw_cells, nw_fold, qy_cells, hf, tk_cells, tk_fold, k, new_m, set_m, new_nx']) | (refine awp_reg ?_; simp [-cellOK, nw_cells, nw_fold, qy_cells, hf, tk_cells, tk_fold, k]) | (refine awp_drawT (fun _ => false) mixed (by decide +kernel) ?_; simp [-cellOK, nw_cells, nw_fold, qy_cells, hf, tk_cells, tk_fold, k]) | (refine guarded_split ?_ ?_ <;> (intro hg; simp only [hg]; simp [-cellOK, nw_cells, nw_fold, qy_cells, hf, tk_cells, tk_fold, k])) | (apply awp_cond_t; focus (simp [-cellOK, nw_cells, nw_fold, qy_cells, hf, tk_cells, tk_fold, k]; done)) | (apply awp_cond_f; focus (simp [-cellOK, nw_cells, nw_fold, qy_cells, hf, tk_cells, tk_fold, k]; done)) | (refine awp_cond ?_; simp [-cellOK, nw_cells, nw_fold, qy_cells, hf, tk_cells, tk_fold, k]; refine ⟨?_, ?_⟩ <;> intro hc) | (refine awp_drawT isCallO mixed (by decide +kernel) ?_; simp [-cellOK, nw_cells, nw_fold, qy_cells, hf, tk_cells, tk_fold, k]) | (refine PCalls.use (hb) ?_; simp [-cellOK, nw_cells, nw_fold, qy_cells, hf, tk_cells, tk_fold, k]) | (refine Or.inl ⟨_, Or.inl (hb), ?_⟩; simp [-cellOK, nw_cells, nw_fold, qy_cells, hf, tk_cells, tk_fold, k]) | (refine PCalls.use (h1) ?_; simp [-cellOK, nw_cells, nw_fold, qy_cells, hf, tk_cells, tk_fold, k]) | (refine Or.inl ⟨_, Or.inl (h1), ?_⟩; simp [-cellOK, nw_cells, nw_fold, qy_cells, hf, tk_cells, tk_fold, k]) | fail)
    · have hf : AV.agg [.raw (.int .i64 2), .raw (.int .i64 q.a), .raw (.int .i64 q.b), .raw (.int .i64 q.w), .raw (.int .u32 q.r.lo), .raw (.int .u32 q.r.hi), .raw (.string q.other)] = qyAV q := by rw [← k]; rfl
      rw [if_neg (by omega), if_neg (by omega), if_pos k]
      (try (first | (with_reducible refine dops_go ?_; simp [-cellOK, nw_cells, nw_fold, qy_cells, hf, tk_cells, tk_fold, k]) | (with_reducible refine OKv_go ?_; simp [-cellOK, nw_cells, nw_fold, qy_cells, hf, tk_cells, tk_fold, k]) | (with_reducible refine OKr_go ?_; simp [-cellOK, nw_cells, nw_fold, qy_cells, hf, tk_cells, tk_fold, k]))); repeat' (first | refine awp_seq ?_ | refine awp_block ?_ | (refine awp_skip ?_; try simp) | (refine awp_exit ?_; try simp) | (refine awp_ret ?_; try simp) | (refine retP_same (by simp) ?_; simp) | (refine retP_no (by simp) (by simp [noIds]) (by repeat (first | assumption | exact Ext.refl _ | refine ext_new' ?_ | refine Ext.setF ?_ (by first | assumption | (simp [new_nx', St.set, fresh_none]; done) | exact ext_fresh (by assumption)))) ?_; simp [-cellOK, nw_cells, nw_fold, qy_cells, hf, tk_cells, tk_fold, k, new_m, set_m, new_nx']) | (refine awp_reg ?_; simp [-cellOK, nw_cells, nw_fold, qy_cells, hf, tk_cells, tk_fold, k]) | (refine awp_drawT (fun _ => false) mixed (by decide +kernel) ?_; simp [-cellOK, nw_cells, nw_fold, qy_cells, hf, tk_cells, tk_fold, k]) | (refine guarded_split ?_ ?_ <;> (intro hg; simp only [hg]; simp [-cellOK, nw_cells, nw_fold, qy_cells, hf, tk_cells, tk_fold, k])) | (apply awp_cond_t; focus (simp [-cellOK, nw_cells, nw_fold, qy_cells, hf, tk_cells, tk_fold, k]; done)) | (apply awp_cond_f; focus (simp [-cellOK, nw_cells, nw_fold, qy_cells, hf, tk_cells, tk_fold, k]; done)) | (refine awp_cond ?_; simp [-cellOK, nw_cells, nw_fold, qy_cells, hf, tk_cells, tk_fold, k]; refine ⟨?_, ?_⟩ <;> intro hc) | (refine awp_drawT isCallO mixed (by decide +kernel) ?_; simp [-cellOK, nw_cells, nw_fold, qy_cells, hf, tk_cells, tk_fold, k]) | (refine PCalls.use (hb) ?_; simp [-cellOK, nw_cells, nw_fold, qy_cells, hf, tk_cells, tk_fold, k]) | (refine Or.inl ⟨_, Or.inl (hb), ?_⟩; simp [-cellOK, nw_cells, nw_fold, qy_cells, hf, tk_cells, tk_fold, k]) | (refine PCalls.use (h2) ?_; simp [-cellOK, nw_cells, nw_fold, qy_cells, hf, tk_cells, tk_fold, k]) | (refine Or.inl ⟨_, Or.inl (h2), ?_⟩; simp [-cellOK, nw_cells, nw_fold, qy_cells, hf, tk_cells, tk_fold, k]) | fail)
    · have hf : AV.agg [.raw (.int .i64 3), .raw (.int .i64 q.a), .raw (.int .i64 q.b), .raw (.int .i64 q.w), .raw (.int .u32 q.r.lo), .raw (.int .u32 q.r.hi), .raw (.string q.other)] = qyAV q := by rw [← k]; rfl
      rw [if_neg (by omega), if_neg (by omega), if_neg (by omega), if_pos k]
      (try (first | (with_reducible refine dops_go ?_; simp [-cellOK, nw_cells, nw_fold, qy_cells, hf, tk_cells, tk_fold, k]) | (with_reducible refine OKv_go ?_; simp [-cellOK, nw_cells, nw_fold, qy_cells, hf, tk_cells, tk_fold, k]) | (with_reducible refine OKr_go ?_; simp [-cellOK, nw_cells, nw_fold, qy_cells, hf, tk_cells, tk_fold, k]))); repeat' (first | refine awp_seq ?_ | refine awp_block ?_ | (refine awp_skip ?_; try simp) | (refine awp_exit ?_; try simp) | (refine awp_ret ?_; try simp) | (refine retP_same (by simp) ?_; simp) | (refine retP_no (by simp) (by simp [noIds]) (by repeat (first | assumption | exact Ext.refl _ | refine ext_new' ?_ | refine Ext.setF ?_ (by first | assumption | (simp [new_nx', St.set, fresh_none]; done) | exact ext_fresh (by assumption)))) ?_; simp [-cellOK, nw_cells, nw_fold, qy_cells, hf, tk_cells, tk_fold, k, new_m, set_m, new_nx']) | (refine awp_reg ?_; simp [-cellOK, nw_cells, nw_fold, qy_cells, hf, tk_cells, tk_fold, k]) | (refine awp_drawT (fun _ => false) mixed (by decide +kernel) ?_; simp [-cellOK, nw_cells, nw_fold, qy_cells, hf, tk_cells, tk_fold, k]) | (refine guarded_split ?_ ?_ <;> (intro hg; simp only [hg]; simp [-cellOK, nw_cells, nw_fold, qy_cells, hf, tk_cells, tk_fold, k])) | (apply awp_cond_t; focus (simp [-cellOK, nw_cells, nw_fold, qy_cells, hf, tk_cells, tk_fold, k]; done)) | (apply awp_cond_f; focus (simp [-cellOK, nw_cells, nw_fold, qy_cells, hf, tk_cells, tk_fold, k]; done)) | (refine awp_cond ?_; simp [-cellOK, nw_cells, nw_fold, qy_cells, hf, tk_cells, tk_fold, k]; refine ⟨?_, ?_⟩ <;> intro hc) | (refine awp_drawT isCallO mixed (by decide +kernel) ?_; simp [-cellOK, nw_cells, nw_fold, qy_cells, hf, tk_cells, tk_fold, k]) | (refine PCalls.use (hb) ?_; simp [-cellOK, nw_cells, nw_fold, qy_cells, hf, tk_cells, tk_fold, k]) | (refine Or.inl ⟨_, Or.inl (hb), ?_⟩; simp [-cellOK, nw_cells, nw_fold, qy_cells, hf, tk_cells, tk_fold, k]) | (refine PCalls.use (h3) ?_; simp [-cellOK, nw_cells, nw_fold, qy_cells, hf, tk_cells, tk_fold, k]) | (refine Or.inl ⟨_, Or.inl (h3), ?_⟩; simp [-cellOK, nw_cells, nw_fold, qy_cells, hf, tk_cells, tk_fold, k]) | fail)
    · have hf : AV.agg [.raw (.int .i64 4), .raw (.int .i64 q.a), .raw (.int .i64 q.b), .raw (.int .i64 q.w), .raw (.int .u32 q.r.lo), .raw (.int .u32 q.r.hi), .raw (.string q.other)] = qyAV q := by rw [← k]; rfl
      rw [if_neg (by omega), if_neg (by omega), if_neg (by omega), if_neg (by omega), if_pos k]
      (try (first | (with_reducible refine dops_go ?_; simp [-cellOK, nw_cells, nw_fold, qy_cells, hf, tk_cells, tk_fold, k]) | (with_reducible refine OKv_go ?_; simp [-cellOK, nw_cells, nw_fold, qy_cells, hf, tk_cells, tk_fold, k]) | (with_reducible refine OKr_go ?_; simp [-cellOK, nw_cells, nw_fold, qy_cells, hf, tk_cells, tk_fold, k]))); repeat' (first | refine awp_seq ?_ | refine awp_block ?_ | (refine awp_skip ?_; try simp) | (refine awp_exit ?_; try simp) | (refine awp_ret ?_; try simp) | (refine retP_same (by simp) ?_; simp) | (refine retP_no (by simp) (by simp [noIds]) (by repeat (first | assumption | exact Ext.refl _ | refine ext_new' ?_ | refine Ext.setF ?_ (by first | assumption | (simp [new_nx', St.set, fresh_none]; done) | exact ext_fresh (by assumption)))) ?_; simp [-cellOK, nw_cells, nw_fold, qy_cells, hf, tk_cells, tk_fold, k, new_m, set_m, new_nx']) | (refine awp_reg ?_; simp [-cellOK, nw_cells, nw_fold, qy_cells, hf, tk_cells, tk_fold, k]) | (refine awp_drawT (fun _ => false) mixed (by decide +kernel) ?_; simp [-cellOK, nw_cells, nw_fold, qy_cells, hf, tk_cells, tk_fold, k]) | (refine guarded_split ?_ ?_ <;> (intro hg; simp only [hg]; simp [-cellOK, nw_cells, nw_fold, qy_cells, hf, tk_cells, tk_fold, k])) | (apply awp_cond_t; focus (simp [-cellOK, nw_cells, nw_fold, qy_cells, hf, tk_cells, tk_fold, k]; done)) | (apply awp_cond_f; focus (simp [-cellOK, nw_cells, nw_fold, qy_cells, hf, tk_cells, tk_fold, k]; done)) | (refine awp_cond ?_; simp [-cellOK, nw_cells, nw_fold, qy_cells, hf, tk_cells, tk_fold, k]; refine ⟨?_, ?_⟩ <;> intro hc) | (refine awp_drawT isCallO mixed (by decide +kernel) ?_; simp [-cellOK, nw_cells, nw_fold, qy_cells, hf, tk_cells, tk_fold, k]) | (refine PCalls.use (hb) ?_; simp [-cellOK, nw_cells, nw_fold, qy_cells, hf, tk_cells, tk_fold, k]) | (refine Or.inl ⟨_, Or.inl (hb), ?_⟩; simp [-cellOK, nw_cells, nw_fold, qy_cells, hf, tk_cells, tk_fold, k]) | (refine PCalls.use (h4) ?_; simp [-cellOK, nw_cells, nw_fold, qy_cells, hf, tk_cells, tk_fold, k]) | (refine Or.inl ⟨_, Or.inl (h4), ?_⟩; simp [-cellOK, nw_cells, nw_fold, qy_cells, hf, tk_cells, tk_fold, k]) | fail)
    · have hf : AV.agg [.raw (.int .i64 5), .raw (.int .i64 q.a), .raw (.int .i64 q.b), .raw (.int .i64 q.w), .raw (.int .u32 q.r.lo), .raw (.int .u32 q.r.hi), .raw (.string q.other)] = qyAV q := by rw [← k]; rfl
      rw [if_neg (by omega), if_neg (by omega), if_neg (by omega), if_neg (by omega), if_neg (by omega), if_pos k]
      (try (first | (with_reducible refine dops_go ?_; simp [-cellOK, nw_cells, nw_fold, qy_cells, hf, tk_cells, tk_fold, k]) | (with_reducible refine OKv_go ?_; simp [-cellOK, nw_cells, nw_fold, qy_cells, hf, tk_cells, tk_fold, k]) | (with_reducible refine OKr_go ?_; simp [-cellOK, nw_cells, nw_fold, qy_cells, hf, tk_cells, tk_fold, k]))); repeat' (first | refine awp_seq ?_ | refine awp_block ?_ | (refine awp_skip ?_; try simp) | (refine awp_exit ?_; try simp) | (refine awp_ret ?_; try simp) | (refine retP_same (by simp) ?_; simp) | (refine retP_no (by simp) (by simp [noIds]) (by repeat (first | assumption | exact Ext.refl _ | refine ext_new' ?_ | refine Ext.setF ?_ (by first | assumption | (simp [new_nx', St.set, fresh_none]; done) | exact ext_fresh (by assumption)))) ?_; simp [-cellOK, nw_cells, nw_fold, qy_cells, hf, tk_cells, tk_fold, k, new_m, set_m, new_nx']) | (refine awp_reg ?_; simp [-cellOK, nw_cells, nw_fold, qy_cells, hf, tk_cells, tk_fold, k]) | (refine awp_drawT (fun _ => false) mixed (by decide +kernel) ?_; simp [-cellOK, nw_cells, nw_fold, qy_cells, hf, tk_cells, tk_fold, k]) | (refine guarded_split ?_ ?_ <;> (intro hg; simp only [hg]; simp [-cellOK, nw_cells, nw_fold, qy_cells, hf, tk_cells, tk_fold, k])) | (apply awp_cond_t; focus (simp [-cellOK, nw_cells, nw_fold, qy_cells, hf, tk_cells, tk_fold, k]; done)) | (apply awp_cond_f; focus (simp [-cellOK, nw_cells, nw_fold, qy_cells, hf, tk_cells, tk_fold, k]; done)) | (refine awp_cond ?_; simp [-cellOK, nw_cells, nw_fold, qy_cells, hf, tk_cells, tk_fold, k]; refine ⟨?_, ?_⟩ <;> intro hc) | (refine awp_drawT isCallO mixed (by decide +kernel) ?_; simp [-cellOK, nw_cells, nw_fold, qy_cells, hf, tk_cells, tk_fold, k]) | (refine PCalls.use (hb) ?_; simp [-cellOK, nw_cells, nw_fold, qy_cells, hf, tk_cells, tk_fold, k]) | (refine Or.inl ⟨_, Or.inl (hb), ?_⟩; simp [-cellOK, nw_cells, nw_fold, qy_cells, hf, tk_cells, tk_fold, k]) | (refine PCalls.use (h5) ?_; simp [-cellOK, nw_cells, nw_fold, qy_cells, hf, tk_cells, tk_fold, k]) | (refine Or.inl ⟨_, Or.inl (h5), ?_⟩; simp [-cellOK, nw_cells, nw_fold, qy_cells, hf, tk_cells, tk_fold, k]) | fail)
  · rw [if_neg (by omega), if_neg (by omega), if_neg (by omega), if_neg (by omega), if_neg (by omega), if_neg (by omega)]
    (try (first | (with_reducible refine dops_go ?_; simp [-cellOK, nw_cells, qy_cells, tk_cells, k0', k6]) | (with_reducible refine OKv_go ?_; simp [-cellOK, nw_cells, qy_cells, tk_cells, k0', k6]) | (with_reducible refine OKr_go ?_; simp [-cellOK, nw_cells, qy_cells, tk_cells, k0', k6]))); repeat' (first | refine awp_seq ?_ | refine awp_block ?_ | (refine awp_skip ?_; try simp) | (refine awp_exit ?_; try simp) | (refine awp_ret ?_; try simp) | (refine retP_same (by simp) ?_; simp) | (refine retP_no (by simp) (by simp [noIds]) (by repeat (first | assumption | exact Ext.refl _ | refine ext_new' ?_ | refine Ext.setF ?_ (by first | assumption | (simp [new_nx', St.set, fresh_none]; done) | exact ext_fresh (by assumption)))) ?_; simp [-cellOK, nw_cells, qy_cells, tk_cells, k0', k6, new_m, set_m, new_nx']) | (refine awp_reg ?_; simp [-cellOK, nw_cells, qy_cells, tk_cells, k0', k6]) | (refine awp_drawT (fun _ => false) mixed (by decide +kernel) ?_; simp [-cellOK, nw_cells, qy_cells, tk_cells, k0', k6]) | (refine guarded_split ?_ ?_ <;> (intro hg; simp only [hg]; simp [-cellOK, nw_cells, qy_cells, tk_cells, k0', k6])) | (apply awp_cond_t; focus (simp [-cellOK, nw_cells, qy_cells, tk_cells, k0', k6]; done)) | (apply awp_cond_f; focus (simp [-cellOK, nw_cells, qy_cells, tk_cells, k0', k6]; done)) | (refine awp_cond ?_; simp [-cellOK, nw_cells, qy_cells, tk_cells, k0', k6]; refine ⟨?_, ?_⟩ <;> intro hc) | (refine awp_drawT isCallO mixed (by decide +kernel) ?_; simp [-cellOK, nw_cells, qy_cells, tk_cells, k0', k6]) | fail)
end Go.Proofs.Ytanimmdlgmkmkaa.Av


/- Queries: query.Run, query.Same. -/
namespace Go.Proofs.Ytanimmdlgmkmkaa.Av
open Go
set_option linter.unusedSimpArgs false
set_option linter.unusedVariables false
set_option maxRecDepth 100000
set_option maxHeartbeats 4000000
set_option pp.maxSteps 600

structure Vd where
  holds : Bool
  src : Int
  addr : Int
  tr : Tk
deriving DecidableEq
def vdAV (v : Vd) (f : Bool) : AV := .agg [.raw (.bool v.holds), .raw (.int .i64 v.src), .raw (.int .u32 v.addr), intsAV v.tr.path f, .raw (.int .i64 v.tr.out), .raw (.int .i64 v.tr.last.dev), .raw (.int .i64 v.tr.last.port)]
theorem vd_cells (v : Vd) (f : Bool) : (vdAV v f).cells = [.raw (.bool v.holds), .raw (.int .i64 v.src), .raw (.int .u32 v.addr), intsAV v.tr.path f, .raw (.int .i64 v.tr.out), .raw (.int .i64 v.tr.last.dev), .raw (.int .i64 v.tr.last.port)] := rfl
theorem vd_fold (h : Bool) (s a : Int) (t : Tk) (f : Bool) : AV.agg [.raw (.bool h), .raw (.int .i64 s), .raw (.int .u32 a), intsAV t.path f, .raw (.int .i64 t.out), .raw (.int .i64 t.last.dev), .raw (.int .i64 t.last.port)] = vdAV ⟨h, s, a, t⟩ f := rfl
@[simp] theorem vd_ids (K : Id → Prop) (v : Vd) (b : Bool) : (vdAV v b).ids K := by simp [vdAV]
def noTk : Tk := ⟨[], 0, ⟨0, 0⟩⟩
def seek (n m : Nw) (q : Qy) (d : Int) : List Rg → Option Vd
  | [] => none
  | r :: rs => if breaksQ q (traceR n d r.lo).1 (traceR m d r.lo).1 = true then some ⟨false, d, r.lo, (traceR n d r.lo).1⟩ else seek n m q d rs
def seeks (n m : Nw) (q : Qy) (P : List Rg) : List Int → Option Vd
  | [] => none
  | d :: ds => match seek n m q d P with
    | some v => some v
    | none => seeks n m q P ds
def runQ (n m : Nw) (q : Qy) : Vd × Int :=
  if rightQ n q = false ∨ (q.kind = 5 ∧ n.t ≠ m.t) then (⟨false, 0, 0, noTk⟩, 121) else
    match seeks n (if q.kind = 5 then m else n) q (cutP [n, if q.kind = 5 then m else n] q.r) (sourcesQ n q) with
    | some v => (v, 0)
    | none => (⟨true, 0, 0, noTk⟩, 0)
theorem weaker_vd (b : Bool) (e : Int) : Weaker (.tup [.agg [.raw (.bool b), .raw (.int .i64 0), .raw (.int .u32 0), .sl 0 [] true, .raw (.int .i64 0), .raw (.int .i64 0), .raw (.int .i64 0)], .raw (.int .i64 e)]) (.tup [vdAV ⟨b, 0, 0, noTk⟩ false, .raw (.int .i64 e)]) := by
  intro S v h
  simp only [vdAV, noTk, intsAV, List.map_nil, VRel, LRel] at h ⊢
  obtain ⟨l, rfl, u, us, h1, ⟨l2, rfl, h2⟩, h3⟩ := h
  refine ⟨l, rfl, _, us, h1, ⟨l2, rfl, ?_⟩, h3⟩
  obtain ⟨x1, y1, e1, p1, x2, y2, e2, p2, x3, y3, e3, p3, x4, y4, e4, ⟨base, cap, e, q1, q2, q3⟩, p5⟩ := h2
  exact ⟨x1, y1, e1, p1, x2, y2, e2, p2, x3, y3, e3, p3, x4, y4, e4, ⟨base, cap, e, q1, by simp, by simp⟩, p5⟩
/-- An empty verdict, as it is made. -/
def vd0AV : AV := .agg [.raw (.bool false), .raw (.int .i64 0), .raw (.int .u32 0), .sl 0 [] true, .raw (.int .i64 0), .raw (.int .i64 0), .raw (.int .i64 0)]
theorem vd0_put (a b c d e f g : AV) : setPart vd0AV 0 [a, b, c, d, e, f, g] = .agg [a, b, c, d, e, f, g] := rfl
theorem vd0_fold : AV.agg [.raw (.bool false), .raw (.int .i64 0), .raw (.int .u32 0), .sl 0 [] true, .raw (.int .i64 0), .raw (.int .i64 0), .raw (.int .i64 0)] = vd0AV := rfl
theorem vd0_cells : vd0AV.cells = [.raw (.bool false), .raw (.int .i64 0), .raw (.int .u32 0), .sl 0 [] true, .raw (.int .i64 0), .raw (.int .i64 0), .raw (.int .i64 0)] := rfl
theorem vd0_putV (v : Vd) (f : Bool) : setPart vd0AV 0 (vdAV v f).cells = vdAV v f := rfl
theorem held_len (L : List Rg) : (heldL L).length ≤ 500 := by
  have : ∀ (L : List Rg) (s : Option (List Rg)), (s.getD []).length ≤ 500 → ((L.foldl stepL s).getD []).length ≤ 500 := by
    intro L
    induction L with
    | nil => intro s h; exact h
    | cons r L ih =>
      intro s h
      rw [List.foldl_cons]
      refine ih _ ?_
      unfold stepL
      split
      · simp
      · split
        · simp
        · simp only [Option.getD_some, List.length_cons]; omega
  exact this L (some []) (by simp)
theorem cutsL_len (L : List Rg) : (cutsL L).length ≤ 1 + 2 * L.length := by
  have hcc := cutsL_cuts L
  have := nodup_le (m := 0 :: endsL L) (hcc.srt.imp fun h => by omega) fun x hx => by
    rw [List.mem_cons]; simp only [endsL, List.mem_flatMap]; exact (hcc.mem x).1 hx
  have := endsL_len L
  simp only [List.length_cons] at *
  omega
theorem cutP_len (l : List Nw) (r : Rg) : (cutP l r).length ≤ 1001 := by
  unfold cutP
  split
  · simp
  · unfold cutC
    have h1 := List.length_filterMap_le (cutOne r) (atomsC (cutsL (heldL (rgsOf l))))
    rw [atomsC_len] at h1
    have h2 := cutsL_len (heldL (rgsOf l))
    have h3 := held_len (rgsOf l)
    omega
theorem run_calls (n m : Nw) (f g : Fl) (q : Qy) (hn : NwOK n) (hm : NwOK m) (hq : RgOK q.r) :
    PCalls Try.prog 13 [nwAV n f, nwAV m g, qyAV q] (.tup [vdAV (runQ n m q).1 false, .raw (.int .i64 (runQ n m q).2)]) := by
  have hr := rightQ_calls n f q
  have hs := topoSame_calls n.t m.t f g (by have := hn.ports; omega) (by have := hn.links; omega) (by have := hm.ports; omega) (by have := hm.links; omega)
  have hso := sources_calls n f q hn.ports
  refine pbody Try.func13 rfl (N := 93) rfl rfl (by simp) (by simp [noIds]) fun σ => ?_
  repeat (refine awp_seq ?_)
  refine awp_reg ?_
  simp [-cellOK, nw_cells, qy_cells]
  refine awp_freeze ⟨3, σ.nx 3, 3⟩ ?_
  refine awp_freeze ⟨5, σ.nx 5, 7⟩ ?_
  generalize hτ : St.del _ _ = τ
  generalize hA : (fun t => giveUp _ _ _) = A
  have a3 : A 3 = .pp (nwAV n f).cells 0 := by rw [← hA, ← hτ]; simp [giveUp, St.new, St.del, nw_cells]
  have a4 : A 4 = .rp ⟨4, σ.nx 4, 3⟩ 0 0 := by rw [← hA, ← hτ]; simp [giveUp, St.new, St.del, nw_cells, qy_cells]
  have a5 : A 5 = .pp (qyAV q).cells 0 := by rw [← hA, ← hτ]; simp [giveUp, St.new, St.del, nw_cells, qy_cells]
  have a6 : A 6 = .rp ⟨6, σ.nx 6, 7⟩ 0 0 := by rw [← hA, ← hτ]; simp [giveUp, St.new, St.del, nw_cells, qy_cells]
  have m4 : τ.m ⟨4, σ.nx 4, 3⟩ = some (.buf [nwAV m g]) := by rw [← hτ]; simp [St.new, St.del]
  have m6 : τ.m ⟨6, σ.nx 6, 7⟩ = some (.buf [.agg [.raw (.bool false), .raw (.int .i64 0), .raw (.int .u32 0), .sl 0 [] true, .raw (.int .i64 0), .raw (.int .i64 0), .raw (.int .i64 0)]]) := by rw [← hτ]; simp [St.new, St.del]
  have hE : Ext σ τ := by
    rw [← hτ]
    refine ⟨fun i o h => ?_, fun s => ?_⟩
    · have q1 : i ≠ ⟨3, σ.nx 3, 3⟩ := fun e => by rw [e, fresh_none] at h; cases h
      have q2 : i ≠ ⟨4, σ.nx 4, 3⟩ := fun e => by rw [e, fresh_none] at h; cases h
      have q3 : i ≠ ⟨5, σ.nx 5, 7⟩ := fun e => by rw [e, fresh_none] at h; cases h
      have q4 : i ≠ ⟨6, σ.nx 6, 7⟩ := fun e => by rw [e, fresh_none] at h; cases h
      simp [St.del, St.new, q1, q2, q3, q4, h]
    · simp only [St.del, St.new]
      repeat' split
      all_goals omega
  clear hτ hA
  have f4 : σ.m ⟨4, σ.nx 4, 3⟩ = none := fresh_none _ _ _
  have f6 : σ.m ⟨6, σ.nx 6, 7⟩ = none := fresh_none _ _ _
  obtain ⟨i4, hi4⟩ : ∃ i, (⟨4, σ.nx 4, 3⟩ : Id) = i := ⟨_, rfl⟩
  obtain ⟨i6, hi6⟩ : ∃ i, (⟨6, σ.nx 6, 7⟩ : Id) = i := ⟨_, rfl⟩
  have s4 : i4.slot = 4 := by rw [← hi4]
  have s6 : i6.slot = 6 := by rw [← hi6]
  rw [hi4] at a4 m4 f4
  rw [hi6] at a6 m6 f6
  have d46 : i4 ≠ i6 := fun e => by rw [e, s6] at s4; cases s4
  have htf : ∀ (N : Nw) (F : Fl), AV.agg [intsAV N.t.ports F.p, linksAV N.t.links F.l] = tpAV N.t F := fun _ _ => rfl
  have bad : ∀ {B : Env} {ρ : St}, Ext σ ρ → aresult Try.prog ρ.m B Try.f13.results = some (.tup [.agg [.raw (.bool false), .raw (.int .i64 0), .raw (.int .u32 0), .sl 0 [] true, .raw (.int .i64 0), .raw (.int .i64 0), .raw (.int .i64 0)], .raw (.int .i64 121)]) → RetP Try.prog Try.f13 σ (.tup [vdAV ⟨false, 0, 0, noTk⟩ false, .raw (.int .i64 121)]) .ret B ρ := fun hE h =>
    retP_weak (.inr rfl) hE h (by simpa [giveUps, giveUp] using weaker_vd false 121)
  unfold runQ
  cases hrb : rightQ n q with
  | false =>
    rw [hrb] at hr
    rw [if_pos (.inl rfl)]
    (try (first | (with_reducible refine dops_go ?_; simp [-cellOK, a3, a4, a5, a6, nw_cells, nw_fold, qy_cells, qy_fold, m6]) | (with_reducible refine OKv_go ?_; simp [-cellOK, a3, a4, a5, a6, nw_cells, nw_fold, qy_cells, qy_fold, m6]) | (with_reducible refine OKr_go ?_; simp [-cellOK, a3, a4, a5, a6, nw_cells, nw_fold, qy_cells, qy_fold, m6]))); repeat' (first | refine awp_seq ?_ | refine awp_block ?_ | (refine awp_skip ?_; try simp) | (refine awp_exit ?_; try simp) | (refine awp_ret ?_; try simp) | (refine awp_reg ?_; simp [-cellOK, a3, a4, a5, a6, nw_cells, nw_fold, qy_cells, qy_fold, m6]) | (refine awp_drawT (fun _ => false) mixed (by decide +kernel) ?_; simp [-cellOK, a3, a4, a5, a6, nw_cells, nw_fold, qy_cells, qy_fold, m6]) | (refine guarded_split ?_ ?_ <;> (intro hg; simp only [hg]; simp [-cellOK, a3, a4, a5, a6, nw_cells, nw_fold, qy_cells, qy_fold, m6])) | (apply awp_cond_t; focus (simp [-cellOK, a3, a4, a5, a6, nw_cells, nw_fold, qy_cells, qy_fold, m6]; done)) | (apply awp_cond_f; focus (simp [-cellOK, a3, a4, a5, a6, nw_cells, nw_fold, qy_cells, qy_fold, m6]; done)) | (refine awp_cond ?_; simp [-cellOK, a3, a4, a5, a6, nw_cells, nw_fold, qy_cells, qy_fold, m6]; refine ⟨?_, ?_⟩ <;> intro hc) | (refine awp_drawT isCallO mixed (by decide +kernel) ?_; simp [-cellOK, a3, a4, a5, a6, nw_cells, nw_fold, qy_cells, qy_fold, m6]) | (refine PCalls.use (hr) ?_; simp [-cellOK, a3, a4, a5, a6, nw_cells, nw_fold, qy_cells, qy_fold, m6]) | (refine Or.inl ⟨_, Or.inl (hr), ?_⟩; simp [-cellOK, a3, a4, a5, a6, nw_cells, nw_fold, qy_cells, qy_fold, m6]) | fail)
    exact bad (by repeat (first | assumption | exact Ext.refl _ | refine ext_new' ?_ | refine Ext.setF ?_ (by first | assumption | (simp [new_nx', St.set, fresh_none]; done) | exact ext_fresh (by assumption)))) (by simp [set_m, m6, a6])
  | true =>
  rw [hrb] at hr
  obtain ⟨M, hM⟩ : ∃ M, (if q.kind = 5 then m else n) = M := ⟨_, rfl⟩
  obtain ⟨G, hG⟩ : ∃ G, (if q.kind = 5 then g else f) = G := ⟨_, rfl⟩
  have hMok : NwOK M := by rw [← hM]; split <;> assumption
  by_cases hbad : q.kind = 5 ∧ n.t ≠ m.t
  · rw [if_pos (.inr hbad)]
    obtain ⟨k5, hne⟩ := hbad
    have k5 := eq_true k5
    rw [decide_eq_false hne] at hs
    (try (first | (with_reducible refine dops_go ?_; simp [-cellOK, a3, a4, a5, a6, nw_cells, nw_fold, qy_cells, qy_fold, m4, m6, k5, htf]) | (with_reducible refine OKv_go ?_; simp [-cellOK, a3, a4, a5, a6, nw_cells, nw_fold, qy_cells, qy_fold, m4, m6, k5, htf]) | (with_reducible refine OKr_go ?_; simp [-cellOK, a3, a4, a5, a6, nw_cells, nw_fold, qy_cells, qy_fold, m4, m6, k5, htf]))); repeat' (first | refine awp_seq ?_ | refine awp_block ?_ | (refine awp_skip ?_; try simp) | (refine awp_exit ?_; try simp) | (refine awp_ret ?_; try simp) | (refine awp_reg ?_; simp [-cellOK, a3, a4, a5, a6, nw_cells, nw_fold, qy_cells, qy_fold, m4, m6, k5, htf]) | (refine awp_drawT (fun _ => false) mixed (by decide +kernel) ?_; simp [-cellOK, a3, a4, a5, a6, nw_cells, nw_fold, qy_cells, qy_fold, m4, m6, k5, htf]) | (refine guarded_split ?_ ?_ <;> (intro hg; simp only [hg]; simp [-cellOK, a3, a4, a5, a6, nw_cells, nw_fold, qy_cells, qy_fold, m4, m6, k5, htf])) | (apply awp_cond_t; focus (simp [-cellOK, a3, a4, a5, a6, nw_cells, nw_fold, qy_cells, qy_fold, m4, m6, k5, htf]; done)) | (apply awp_cond_f; focus (simp [-cellOK, a3, a4, a5, a6, nw_cells, nw_fold, qy_cells, qy_fold, m4, m6, k5, htf]; done)) | (refine awp_cond ?_; simp [-cellOK, a3, a4, a5, a6, nw_cells, nw_fold, qy_cells, qy_fold, m4, m6, k5, htf]; refine ⟨?_, ?_⟩ <;> intro hc) | (refine awp_drawT isCallO mixed (by decide +kernel) ?_; simp [-cellOK, a3, a4, a5, a6, nw_cells, nw_fold, qy_cells, qy_fold, m4, m6, k5, htf]) | (refine PCalls.use (hr) ?_; simp [-cellOK, a3, a4, a5, a6, nw_cells, nw_fold, qy_cells, qy_fold, m4, m6, k5, htf]) | (refine Or.inl ⟨_, Or.inl (hr), ?_⟩; simp [-cellOK, a3, a4, a5, a6, nw_cells, nw_fold, qy_cells, qy_fold, m4, m6, k5, htf]) | (refine PCalls.use (hs) ?_; simp [-cellOK, a3, a4, a5, a6, nw_cells, nw_fold, qy_cells, qy_fold, m4, m6, k5, htf]) | (refine Or.inl ⟨_, Or.inl (hs), ?_⟩; simp [-cellOK, a3, a4, a5, a6, nw_cells, nw_fold, qy_cells, qy_fold, m4, m6, k5, htf]) | fail)
    exact bad (by repeat (first | assumption | exact Ext.refl _ | refine ext_new' ?_ | refine Ext.setF ?_ (by first | assumption | (simp [new_nx', St.set, fresh_none]; done) | exact ext_fresh (by assumption)))) (by simp [set_m, m6, a6])
  rw [if_neg (by simp [hbad]), hM]
  have hcut := cut_calls [(n, f), (M, G)] false q.r hq (by simp [hn, hMok]) (by simp)
  simp only [List.map_cons, List.map_nil] at hcut
  generalize (if q.r.hi < q.r.lo then (31 : Int) else 0) = ce at hcut
  have hPl := cutP_len [n, M] q.r
  have hSl : (sourcesQ n q).length < 2 ^ 45 := by
    have := hn.ports
    unfold sourcesQ
    split
    · simp
    · simp; omega
  generalize cutP [n, M] q.r = P at hcut hPl ⊢
  generalize sourcesQ n q = Sq at hso hSl ⊢
  have n4 : ∀ s k z, ¬ s = 4 → (i4 = (⟨s, k, z⟩ : Id)) = False := fun s k z h => eq_false fun e => h (by rw [e] at s4; exact s4)
  have n6 : ∀ s k z, ¬ s = 6 → (i6 = (⟨s, k, z⟩ : Id)) = False := fun s k z h => eq_false fun e => h (by rw [e] at s6; exact s6)
  have d64 := d46.symm
  have ne4 : ∀ k z, i4 ≠ (⟨43, k, z⟩ : Id) := fun k z e => by rw [e] at s4; cases s4
  have ne6 : ∀ k z, i6 ≠ (⟨43, k, z⟩ : Id) := fun k z e => by rw [e] at s6; cases s6
  have hrgf : AV.agg [.raw (.int .u32 q.r.lo), .raw (.int .u32 q.r.hi)] = rgAV q.r := rfl
  by_cases k5 : q.kind = 5
  focus
    have hsame : n.t = m.t := Classical.byContradiction fun h => hbad ⟨k5, h⟩
    rw [decide_eq_true hsame] at hs
    have e1 : m = M := by rw [← hM, if_pos k5]
    have e2 : g = G := by rw [← hG, if_pos k5]
    rw [e1, e2] at m4 hs
    have k5 := eq_true k5
    (try (first | (with_reducible refine dops_go ?_; simp [-cellOK, a3, a4, a5, a6, nw_cells, nw_fold, qy_cells, qy_fold, m4, m6, k5, htf]) | (with_reducible refine OKv_go ?_; simp [-cellOK, a3, a4, a5, a6, nw_cells, nw_fold, qy_cells, qy_fold, m4, m6, k5, htf]) | (with_reducible refine OKr_go ?_; simp [-cellOK, a3, a4, a5, a6, nw_cells, nw_fold, qy_cells, qy_fold, m4, m6, k5, htf]))); repeat' (first | refine awp_seq ?_ | refine awp_block ?_ | (refine awp_skip ?_; try simp) | (refine awp_exit ?_; try simp) | (refine awp_ret ?_; try simp) | (refine retP_same (by simp) ?_; simp) | (refine retP_no (by simp) (by simp [noIds]) (by repeat (first | assumption | exact Ext.refl _ | refine ext_new' ?_ | refine Ext.setF ?_ (by first | assumption | (simp [new_nx', St.set, fresh_none]; done) | exact ext_fresh (by assumption)))) ?_; simp [-cellOK, a3, a4, a5, a6, nw_cells, nw_fold, qy_cells, qy_fold, m4, m6, k5, htf, new_m, set_m, new_nx']) | (refine awp_reg ?_; simp [-cellOK, a3, a4, a5, a6, nw_cells, nw_fold, qy_cells, qy_fold, m4, m6, k5, htf]) | (refine awp_drawT (fun _ => false) mixed (by decide +kernel) ?_; simp [-cellOK, a3, a4, a5, a6, nw_cells, nw_fold, qy_cells, qy_fold, m4, m6, k5, htf]) | (refine guarded_split ?_ ?_ <;> (intro hg; simp only [hg]; simp [-cellOK, a3, a4, a5, a6, nw_cells, nw_fold, qy_cells, qy_fold, m4, m6, k5, htf])) | (apply awp_cond_t; focus (simp [-cellOK, a3, a4, a5, a6, nw_cells, nw_fold, qy_cells, qy_fold, m4, m6, k5, htf]; done)) | (apply awp_cond_f; focus (simp [-cellOK, a3, a4, a5, a6, nw_cells, nw_fold, qy_cells, qy_fold, m4, m6, k5, htf]; done)) | (refine awp_cond ?_; simp [-cellOK, a3, a4, a5, a6, nw_cells, nw_fold, qy_cells, qy_fold, m4, m6, k5, htf]; refine ⟨?_, ?_⟩ <;> intro hc) | (refine awp_drawT isCallO mixed (by decide +kernel) ?_; simp [-cellOK, a3, a4, a5, a6, nw_cells, nw_fold, qy_cells, qy_fold, m4, m6, k5, htf]) | (refine PCalls.use (hr) ?_; simp [-cellOK, a3, a4, a5, a6, nw_cells, nw_fold, qy_cells, qy_fold, m4, m6, k5, htf]) | (refine Or.inl ⟨_, Or.inl (hr), ?_⟩; simp [-cellOK, a3, a4, a5, a6, nw_cells, nw_fold, qy_cells, qy_fold, m4, m6, k5, htf]) | (refine PCalls.use (hs) ?_; simp [-cellOK, a3, a4, a5, a6, nw_cells, nw_fold, qy_cells, qy_fold, m4, m6, k5, htf]) | (refine Or.inl ⟨_, Or.inl (hs), ?_⟩; simp [-cellOK, a3, a4, a5, a6, nw_cells, nw_fold, qy_cells, qy_fold, m4, m6, k5, htf]) | fail)
    refine hcut.useFz (σ0 := σ) ⟨43, τ.nx 43, 3⟩ (ext_fresh hE) (by repeat (first | assumption | exact Ext.refl _ | refine ext_new' ?_ | refine Ext.setF ?_ (by first | assumption | (simp [new_nx', St.set, fresh_none]; done) | exact ext_fresh (by assumption)))) (by simp [giveUp, new_m, netsAV, hrgf]; rfl) ?_
    intro τ2 hE2 hk2 _
    have g4 : τ2.m i4 = some (.buf [nwAV M G]) := hk2 i4 _ (ne4 _ _) (new_up _ _ m4)
    have g6 := hk2 i6 _ (ne6 _ _) (new_up _ _ m6)
  rotate_left
  focus
    have e1 : M = n := by rw [← hM, if_neg k5]
    have e2 : G = f := by rw [← hG, if_neg k5]
    have hnp : setPart (nwAV m g) 0 [intsAV n.t.ports f.p, linksAV n.t.links f.l, rulesAV n.rules f.r] = nwAV n f := rfl
    (try (first | (with_reducible refine dops_go ?_; simp [-cellOK, a3, a4, a5, a6, nw_cells, nw_fold, qy_cells, qy_fold, m4, m6, k5, htf, hnp]) | (with_reducible refine OKv_go ?_; simp [-cellOK, a3, a4, a5, a6, nw_cells, nw_fold, qy_cells, qy_fold, m4, m6, k5, htf, hnp]) | (with_reducible refine OKr_go ?_; simp [-cellOK, a3, a4, a5, a6, nw_cells, nw_fold, qy_cells, qy_fold, m4, m6, k5, htf, hnp]))); repeat' (first | refine awp_seq ?_ | refine awp_block ?_ | (refine awp_skip ?_; try simp) | (refine awp_exit ?_; try simp) | (refine awp_ret ?_; try simp) | (refine retP_same (by simp) ?_; simp) | (refine retP_no (by simp) (by simp [noIds]) (by repeat (first | assumption | exact Ext.refl _ | refine ext_new' ?_ | refine Ext.setF ?_ (by first | assumption | (simp [new_nx', St.set, fresh_none]; done) | exact ext_fresh (by assumption)))) ?_; simp [-cellOK, a3, a4, a5, a6, nw_cells, nw_fold, qy_cells, qy_fold, m4, m6, k5, htf, hnp, new_m, set_m, new_nx']) | (refine awp_reg ?_; simp [-cellOK, a3, a4, a5, a6, nw_cells, nw_fold, qy_cells, qy_fold, m4, m6, k5, htf, hnp]) | (refine awp_drawT (fun _ => false) mixed (by decide +kernel) ?_; simp [-cellOK, a3, a4, a5, a6, nw_cells, nw_fold, qy_cells, qy_fold, m4, m6, k5, htf, hnp]) | (refine guarded_split ?_ ?_ <;> (intro hg; simp only [hg]; simp [-cellOK, a3, a4, a5, a6, nw_cells, nw_fold, qy_cells, qy_fold, m4, m6, k5, htf, hnp])) | (apply awp_cond_t; focus (simp [-cellOK, a3, a4, a5, a6, nw_cells, nw_fold, qy_cells, qy_fold, m4, m6, k5, htf, hnp]; done)) | (apply awp_cond_f; focus (simp [-cellOK, a3, a4, a5, a6, nw_cells, nw_fold, qy_cells, qy_fold, m4, m6, k5, htf, hnp]; done)) | (refine awp_cond ?_; simp [-cellOK, a3, a4, a5, a6, nw_cells, nw_fold, qy_cells, qy_fold, m4, m6, k5, htf, hnp]; refine ⟨?_, ?_⟩ <;> intro hc) | (refine awp_drawT isCallO mixed (by decide +kernel) ?_; simp [-cellOK, a3, a4, a5, a6, nw_cells, nw_fold, qy_cells, qy_fold, m4, m6, k5, htf, hnp]) | (refine PCalls.use (hr) ?_; simp [-cellOK, a3, a4, a5, a6, nw_cells, nw_fold, qy_cells, qy_fold, m4, m6, k5, htf, hnp]) | (refine Or.inl ⟨_, Or.inl (hr), ?_⟩; simp [-cellOK, a3, a4, a5, a6, nw_cells, nw_fold, qy_cells, qy_fold, m4, m6, k5, htf, hnp]) | (refine PCalls.use (hs) ?_; simp [-cellOK, a3, a4, a5, a6, nw_cells, nw_fold, qy_cells, qy_fold, m4, m6, k5, htf, hnp]) | (refine Or.inl ⟨_, Or.inl (hs), ?_⟩; simp [-cellOK, a3, a4, a5, a6, nw_cells, nw_fold, qy_cells, qy_fold, m4, m6, k5, htf, hnp]) | fail)
    refine hcut.useFz (σ0 := σ) ⟨43, τ.nx 43, 3⟩ (ext_fresh hE) (by repeat (first | assumption | exact Ext.refl _ | refine ext_new' ?_ | refine Ext.setF ?_ (by first | assumption | (simp [new_nx', St.set, fresh_none]; done) | exact ext_fresh (by assumption)))) (by simp [giveUp, new_m, set_m, netsAV, hrgf, e1, e2]; rfl) ?_
    intro τ2 hE2 hk2 _
    have g4 : τ2.m i4 = some (.buf [nwAV M G]) := by rw [e1, e2]; exact hk2 i4 _ (ne4 _ _) (new_up _ _ (set_hit m4))
    have g6 := hk2 i6 _ (ne6 _ _) (new_up _ _ ((set_ne d46.symm).trans m6))
  all_goals
    rw [vd0_fold] at g6
    obtain ⟨R0, hR0⟩ : ∃ R0, seeks n M q P Sq = R0 := ⟨_, rfl⟩
    rw [hR0]
    (try (first | (with_reducible refine dops_go ?_; simp [-cellOK, a3, a4, a5, a6, g4, g6, nw_cells, nw_fold, qy_cells, qy_fold, rgsAV]) | (with_reducible refine OKv_go ?_; simp [-cellOK, a3, a4, a5, a6, g4, g6, nw_cells, nw_fold, qy_cells, qy_fold, rgsAV]) | (with_reducible refine OKr_go ?_; simp [-cellOK, a3, a4, a5, a6, g4, g6, nw_cells, nw_fold, qy_cells, qy_fold, rgsAV]))); repeat' (first | refine awp_seq ?_ | refine awp_block ?_ | (refine awp_skip ?_; try simp) | (refine awp_exit ?_; try simp) | (refine awp_ret ?_; try simp) | (refine retP_same (by simp) ?_; simp) | (refine retP_no (by simp) (by simp [noIds]) (by repeat (first | assumption | exact Ext.refl _ | refine ext_new' ?_ | refine Ext.setF ?_ (by first | assumption | (simp [new_nx', St.set, fresh_none]; done) | exact ext_fresh (by assumption)))) ?_; simp [-cellOK, a3, a4, a5, a6, g4, g6, nw_cells, nw_fold, qy_cells, qy_fold, rgsAV, new_m, set_m, new_nx']) | (refine awp_reg ?_; simp [-cellOK, a3, a4, a5, a6, g4, g6, nw_cells, nw_fold, qy_cells, qy_fold, rgsAV]) | (refine awp_drawT (fun _ => false) mixed (by decide +kernel) ?_; simp [-cellOK, a3, a4, a5, a6, g4, g6, nw_cells, nw_fold, qy_cells, qy_fold, rgsAV]) | (refine guarded_split ?_ ?_ <;> (intro hg; simp only [hg]; simp [-cellOK, a3, a4, a5, a6, g4, g6, nw_cells, nw_fold, qy_cells, qy_fold, rgsAV])) | (apply awp_cond_t; focus (simp [-cellOK, a3, a4, a5, a6, g4, g6, nw_cells, nw_fold, qy_cells, qy_fold, rgsAV]; done)) | (apply awp_cond_f; focus (simp [-cellOK, a3, a4, a5, a6, g4, g6, nw_cells, nw_fold, qy_cells, qy_fold, rgsAV]; done)) | (refine awp_cond ?_; simp [-cellOK, a3, a4, a5, a6, g4, g6, nw_cells, nw_fold, qy_cells, qy_fold, rgsAV]; refine ⟨?_, ?_⟩ <;> intro hc) | (refine awp_drawT isCallO mixed (by decide +kernel) ?_; simp [-cellOK, a3, a4, a5, a6, g4, g6, nw_cells, nw_fold, qy_cells, qy_fold, rgsAV]) | (refine PCalls.use (hso) ?_; simp [-cellOK, a3, a4, a5, a6, g4, g6, nw_cells, nw_fold, qy_cells, qy_fold, rgsAV]) | (refine Or.inl ⟨_, Or.inl (hso), ?_⟩; simp [-cellOK, a3, a4, a5, a6, g4, g6, nw_cells, nw_fold, qy_cells, qy_fold, rgsAV]) | fail)
    refine awp_loopH (fun n' B ρ => Ext σ ρ ∧ B 3 = .pp (nwAV n f).cells 0 ∧ B 4 = .rp i4 0 0 ∧ B 5 = .pp (qyAV q).cells 0 ∧ B 6 = .rp i6 0 0 ∧ ρ.m i4 = some (.buf [nwAV M G]) ∧ ρ.m i6 = some (.buf [vd0AV]) ∧ B 8 = rgsAV P false ∧ B 51 = intsAV Sq false ∧ B 52 = .raw (.int .i64 Sq.length) ∧ ∃ i : Nat, B 53 = .raw (.int .i64 i) ∧ i ≤ Sq.length ∧ n' = Sq.length - i ∧ seeks n M q P (Sq.drop i) = R0) Sq.length ?_ ?_
    · exact ⟨(by repeat (first | assumption | exact Ext.refl _ | refine ext_new' ?_ | refine Ext.setF ?_ (by first | assumption | (simp [new_nx', St.set, fresh_none]; done) | exact ext_fresh (by assumption)))), by simp [a3], by simp [a4], by simp [a5], by simp [a6], g4, g6, by simp [rgsAV], by simp [intsAV], by simp [intsAV], 0, by simp, by omega, by omega, by simpa using hR0⟩
    clear a3 a4 a5 a6 g4 g6 m4 m6 hE2 hE hk2 hR0
    rintro n' B ρ ⟨hE, a3, a4, a5, a6, m4, m6, a8, a51, a52, i, a53, hi, rfl, hR⟩ I1 hI1
    by_cases hlt : i < Sq.length
    · have hx : Sq[i]? = some Sq[i] := List.getElem?_eq_getElem hlt
      have w1 : IntKind.i64.wrap ((i : Int) + 1) = ((i + 1 : Nat) : Int) := by rw [wrap64 (by omega) (by omega)]; omega
      rw [List.drop_eq_getElem_cons hlt] at hR
      obtain ⟨d, hd⟩ : ∃ d, Sq[i] = d := ⟨_, rfl⟩
      rw [hd] at hR
      simp only [seeks] at hR
      (try (first | (with_reducible refine dops_go ?_; simp [-cellOK, a3, a4, a5, a6, a8, a51, a52, a53, m4, m6, hlt, hx, hd, rgsAV, intsAV, iAV]) | (with_reducible refine OKv_go ?_; simp [-cellOK, a3, a4, a5, a6, a8, a51, a52, a53, m4, m6, hlt, hx, hd, rgsAV, intsAV, iAV]) | (with_reducible refine OKr_go ?_; simp [-cellOK, a3, a4, a5, a6, a8, a51, a52, a53, m4, m6, hlt, hx, hd, rgsAV, intsAV, iAV]))); repeat' (first | refine awp_seq ?_ | refine awp_block ?_ | (refine awp_skip ?_; try simp) | (refine awp_exit ?_; try simp) | (refine awp_ret ?_; try simp) | (refine retP_same (by simp) ?_; simp) | (refine retP_no (by simp) (by simp [noIds]) (by repeat (first | assumption | exact Ext.refl _ | refine ext_new' ?_ | refine Ext.setF ?_ (by first | assumption | (simp [new_nx', St.set, fresh_none]; done) | exact ext_fresh (by assumption)))) ?_; simp [-cellOK, a3, a4, a5, a6, a8, a51, a52, a53, m4, m6, hlt, hx, hd, rgsAV, intsAV, iAV, new_m, set_m, new_nx']) | (refine awp_reg ?_; simp [-cellOK, a3, a4, a5, a6, a8, a51, a52, a53, m4, m6, hlt, hx, hd, rgsAV, intsAV, iAV]) | (refine awp_drawT (fun _ => false) mixed (by decide +kernel) ?_; simp [-cellOK, a3, a4, a5, a6, a8, a51, a52, a53, m4, m6, hlt, hx, hd, rgsAV, intsAV, iAV]) | (refine guarded_split ?_ ?_ <;> (intro hg; simp only [hg]; simp [-cellOK, a3, a4, a5, a6, a8, a51, a52, a53, m4, m6, hlt, hx, hd, rgsAV, intsAV, iAV])) | (apply awp_cond_t; focus (simp [-cellOK, a3, a4, a5, a6, a8, a51, a52, a53, m4, m6, hlt, hx, hd, rgsAV, intsAV, iAV]; done)) | (apply awp_cond_f; focus (simp [-cellOK, a3, a4, a5, a6, a8, a51, a52, a53, m4, m6, hlt, hx, hd, rgsAV, intsAV, iAV]; done)) | (refine awp_cond ?_; simp [-cellOK, a3, a4, a5, a6, a8, a51, a52, a53, m4, m6, hlt, hx, hd, rgsAV, intsAV, iAV]; refine ⟨?_, ?_⟩ <;> intro hc) | (refine awp_drawT isCallO mixed (by decide +kernel) ?_; simp [-cellOK, a3, a4, a5, a6, a8, a51, a52, a53, m4, m6, hlt, hx, hd, rgsAV, intsAV, iAV]) | fail)
      refine awp_loopH (fun n' C τ => Ext σ τ ∧ C 3 = .pp (nwAV n f).cells 0 ∧ C 4 = .rp i4 0 0 ∧ C 5 = .pp (qyAV q).cells 0 ∧ C 6 = .rp i6 0 0 ∧ τ.m i4 = some (.buf [nwAV M G]) ∧ τ.m i6 = some (.buf [vd0AV]) ∧ C 8 = rgsAV P false ∧ C 51 = intsAV Sq false ∧ C 52 = .raw (.int .i64 Sq.length) ∧ C 53 = .raw (.int .i64 i) ∧ C 11 = .raw (.int .i64 d) ∧ C 57 = rgsAV P false ∧ C 58 = .raw (.int .i64 P.length) ∧ ∃ j : Nat, C 59 = .raw (.int .i64 j) ∧ j ≤ P.length ∧ n' = P.length - j ∧ seek n M q d P = seek n M q d (P.drop j)) P.length ?_ ?_
      · exact ⟨(by repeat (first | assumption | exact Ext.refl _ | refine ext_new' ?_ | refine Ext.setF ?_ (by first | assumption | (simp [new_nx', St.set, fresh_none]; done) | exact ext_fresh (by assumption)))), by simp [a3], by simp [a4], by simp [a5], by simp [a6], m4, m6, by simp [a8, rgsAV], by simp [a51, intsAV], by simp [a52], by simp [a53], by simp, by simp [rgsAV], by simp, 0, by simp, by omega, by omega, by simp⟩
      clear a3 a4 a5 a6 a8 a51 a52 a53 m4 m6 hE
      rintro n' C τ ⟨hE, a3, a4, a5, a6, m4, m6, a8, a51, a52, a53, a11, a57, a58, j, a59, hj, rfl, hS⟩ J1 hJ1
      by_cases hjl : j < P.length
      · have hy : P[j]? = some P[j] := List.getElem?_eq_getElem hjl
        have w2 : IntKind.i64.wrap ((j : Int) + 1) = ((j + 1 : Nat) : Int) := by rw [wrap64 (by omega) (by omega)]; omega
        rw [List.drop_eq_getElem_cons hjl] at hS
        obtain ⟨r, hr'⟩ : ∃ r, P[j] = r := ⟨_, rfl⟩
        rw [hr'] at hS
        simp only [seek] at hS
        have h1 := trace_calls n f d r.lo hn
        have h2 := trace_calls M G d r.lo hMok
        have l1 := traceR_len n d r.lo
        have l2 := traceR_len M d r.lo
        have l3 := hn.links
        have l4 := hMok.links
        have hb := breaks_calls n M f G q (traceR n d r.lo).1 (traceR M d r.lo).1 false false (by omega) (by omega)
        generalize (traceR n d r.lo).1 = T at h1 hb hS
        generalize (traceR M d r.lo).1 = U at h2 hb hS
        generalize (traceR n d r.lo).2 = eT at h1
        generalize (traceR M d r.lo).2 = eU at h2
        have hrq : ∀ x y : Int, setPart (AV.agg [.raw (.int .u32 0), .raw (.int .u32 0)]) 0 [.raw (.int .u32 x), .raw (.int .u32 y)] = rgAV ⟨x, y⟩ := fun _ _ => rfl
        have hrf : ∀ x y : Int, AV.agg [.raw (.int .u32 x), .raw (.int .u32 y)] = rgAV ⟨x, y⟩ := fun _ _ => rfl
        have hrp : ∀ x y : Int, setPart (rgAV ⟨0, 0⟩) 0 [.raw (.int .u32 x), .raw (.int .u32 y)] = rgAV ⟨x, y⟩ := fun _ _ => rfl
        by_cases hbr : breaksQ q T U = true
        · rw [hbr] at hb
          rw [if_pos hbr] at hS
          rw [hS] at hR
          simp only [] at hR
          subst hR
          (try (first | (with_reducible refine dops_go ?_; simp [-cellOK, a3, a4, a5, a6, a8, a51, a52, a53, a11, a57, a58, a59, m4, m6, hjl, hy, hr', rgsAV, rg_cells, hrq, hrf, hrp, nw_cells, nw_fold, qy_cells, qy_fold, tk_cells, tk_fold, tk_putL, vd0_cells, vd0_put, vd0_putV, vd_cells, vd_fold, new_m, set_m, new_nx', n4, n6, d46, d64]) | (with_reducible refine OKv_go ?_; simp [-cellOK, a3, a4, a5, a6, a8, a51, a52, a53, a11, a57, a58, a59, m4, m6, hjl, hy, hr', rgsAV, rg_cells, hrq, hrf, hrp, nw_cells, nw_fold, qy_cells, qy_fold, tk_cells, tk_fold, tk_putL, vd0_cells, vd0_put, vd0_putV, vd_cells, vd_fold, new_m, set_m, new_nx', n4, n6, d46, d64]) | (with_reducible refine OKr_go ?_; simp [-cellOK, a3, a4, a5, a6, a8, a51, a52, a53, a11, a57, a58, a59, m4, m6, hjl, hy, hr', rgsAV, rg_cells, hrq, hrf, hrp, nw_cells, nw_fold, qy_cells, qy_fold, tk_cells, tk_fold, tk_putL, vd0_cells, vd0_put, vd0_putV, vd_cells, vd_fold, new_m, set_m, new_nx', n4, n6, d46, d64]))); repeat' (first | refine awp_seq ?_ | refine awp_block ?_ | (refine awp_skip ?_; try simp) | (refine awp_exit ?_; try simp) | (refine awp_ret ?_; try simp) | (refine retP_same (by simp) ?_; simp) | (refine retP_no (by simp) (by simp [noIds]) (by repeat (first | assumption | exact Ext.refl _ | refine ext_new' ?_ | refine Ext.setF ?_ (by first | assumption | (simp [new_nx', St.set, fresh_none]; done) | exact ext_fresh (by assumption)))) ?_; simp [-cellOK, a3, a4, a5, a6, a8, a51, a52, a53, a11, a57, a58, a59, m4, m6, hjl, hy, hr', rgsAV, rg_cells, hrq, hrf, hrp, nw_cells, nw_fold, qy_cells, qy_fold, tk_cells, tk_fold, tk_putL, vd0_cells, vd0_put, vd0_putV, vd_cells, vd_fold, new_m, set_m, new_nx', n4, n6, d46, d64, new_m, set_m, new_nx']) | (refine awp_reg ?_; simp [-cellOK, a3, a4, a5, a6, a8, a51, a52, a53, a11, a57, a58, a59, m4, m6, hjl, hy, hr', rgsAV, rg_cells, hrq, hrf, hrp, nw_cells, nw_fold, qy_cells, qy_fold, tk_cells, tk_fold, tk_putL, vd0_cells, vd0_put, vd0_putV, vd_cells, vd_fold, new_m, set_m, new_nx', n4, n6, d46, d64]) | (refine awp_drawT (fun _ => false) mixed (by decide +kernel) ?_; simp [-cellOK, a3, a4, a5, a6, a8, a51, a52, a53, a11, a57, a58, a59, m4, m6, hjl, hy, hr', rgsAV, rg_cells, hrq, hrf, hrp, nw_cells, nw_fold, qy_cells, qy_fold, tk_cells, tk_fold, tk_putL, vd0_cells, vd0_put, vd0_putV, vd_cells, vd_fold, new_m, set_m, new_nx', n4, n6, d46, d64]) | (refine guarded_split ?_ ?_ <;> (intro hg; simp only [hg]; simp [-cellOK, a3, a4, a5, a6, a8, a51, a52, a53, a11, a57, a58, a59, m4, m6, hjl, hy, hr', rgsAV, rg_cells, hrq, hrf, hrp, nw_cells, nw_fold, qy_cells, qy_fold, tk_cells, tk_fold, tk_putL, vd0_cells, vd0_put, vd0_putV, vd_cells, vd_fold, new_m, set_m, new_nx', n4, n6, d46, d64])) | (apply awp_cond_t; focus (simp [-cellOK, a3, a4, a5, a6, a8, a51, a52, a53, a11, a57, a58, a59, m4, m6, hjl, hy, hr', rgsAV, rg_cells, hrq, hrf, hrp, nw_cells, nw_fold, qy_cells, qy_fold, tk_cells, tk_fold, tk_putL, vd0_cells, vd0_put, vd0_putV, vd_cells, vd_fold, new_m, set_m, new_nx', n4, n6, d46, d64]; done)) | (apply awp_cond_f; focus (simp [-cellOK, a3, a4, a5, a6, a8, a51, a52, a53, a11, a57, a58, a59, m4, m6, hjl, hy, hr', rgsAV, rg_cells, hrq, hrf, hrp, nw_cells, nw_fold, qy_cells, qy_fold, tk_cells, tk_fold, tk_putL, vd0_cells, vd0_put, vd0_putV, vd_cells, vd_fold, new_m, set_m, new_nx', n4, n6, d46, d64]; done)) | (refine awp_cond ?_; simp [-cellOK, a3, a4, a5, a6, a8, a51, a52, a53, a11, a57, a58, a59, m4, m6, hjl, hy, hr', rgsAV, rg_cells, hrq, hrf, hrp, nw_cells, nw_fold, qy_cells, qy_fold, tk_cells, tk_fold, tk_putL, vd0_cells, vd0_put, vd0_putV, vd_cells, vd_fold, new_m, set_m, new_nx', n4, n6, d46, d64]; refine ⟨?_, ?_⟩ <;> intro hc) | (refine awp_drawT isCallO mixed (by decide +kernel) ?_; simp [-cellOK, a3, a4, a5, a6, a8, a51, a52, a53, a11, a57, a58, a59, m4, m6, hjl, hy, hr', rgsAV, rg_cells, hrq, hrf, hrp, nw_cells, nw_fold, qy_cells, qy_fold, tk_cells, tk_fold, tk_putL, vd0_cells, vd0_put, vd0_putV, vd_cells, vd_fold, new_m, set_m, new_nx', n4, n6, d46, d64]) | (refine PCalls.use (h1) ?_; simp [-cellOK, a3, a4, a5, a6, a8, a51, a52, a53, a11, a57, a58, a59, m4, m6, hjl, hy, hr', rgsAV, rg_cells, hrq, hrf, hrp, nw_cells, nw_fold, qy_cells, qy_fold, tk_cells, tk_fold, tk_putL, vd0_cells, vd0_put, vd0_putV, vd_cells, vd_fold, new_m, set_m, new_nx', n4, n6, d46, d64]) | (refine Or.inl ⟨_, Or.inl (h1), ?_⟩; simp [-cellOK, a3, a4, a5, a6, a8, a51, a52, a53, a11, a57, a58, a59, m4, m6, hjl, hy, hr', rgsAV, rg_cells, hrq, hrf, hrp, nw_cells, nw_fold, qy_cells, qy_fold, tk_cells, tk_fold, tk_putL, vd0_cells, vd0_put, vd0_putV, vd_cells, vd_fold, new_m, set_m, new_nx', n4, n6, d46, d64]) | (refine PCalls.use (h2) ?_; simp [-cellOK, a3, a4, a5, a6, a8, a51, a52, a53, a11, a57, a58, a59, m4, m6, hjl, hy, hr', rgsAV, rg_cells, hrq, hrf, hrp, nw_cells, nw_fold, qy_cells, qy_fold, tk_cells, tk_fold, tk_putL, vd0_cells, vd0_put, vd0_putV, vd_cells, vd_fold, new_m, set_m, new_nx', n4, n6, d46, d64]) | (refine Or.inl ⟨_, Or.inl (h2), ?_⟩; simp [-cellOK, a3, a4, a5, a6, a8, a51, a52, a53, a11, a57, a58, a59, m4, m6, hjl, hy, hr', rgsAV, rg_cells, hrq, hrf, hrp, nw_cells, nw_fold, qy_cells, qy_fold, tk_cells, tk_fold, tk_putL, vd0_cells, vd0_put, vd0_putV, vd_cells, vd_fold, new_m, set_m, new_nx', n4, n6, d46, d64]) | (refine PCalls.use (hb) ?_; simp [-cellOK, a3, a4, a5, a6, a8, a51, a52, a53, a11, a57, a58, a59, m4, m6, hjl, hy, hr', rgsAV, rg_cells, hrq, hrf, hrp, nw_cells, nw_fold, qy_cells, qy_fold, tk_cells, tk_fold, tk_putL, vd0_cells, vd0_put, vd0_putV, vd_cells, vd_fold, new_m, set_m, new_nx', n4, n6, d46, d64]) | (refine Or.inl ⟨_, Or.inl (hb), ?_⟩; simp [-cellOK, a3, a4, a5, a6, a8, a51, a52, a53, a11, a57, a58, a59, m4, m6, hjl, hy, hr', rgsAV, rg_cells, hrq, hrf, hrp, nw_cells, nw_fold, qy_cells, qy_fold, tk_cells, tk_fold, tk_putL, vd0_cells, vd0_put, vd0_putV, vd_cells, vd_fold, new_m, set_m, new_nx', n4, n6, d46, d64]) | fail)
        · have hbr : breaksQ q T U = false := by simpa using hbr
          rw [hbr] at hb
          rw [hbr, if_neg (by simp)] at hS
          (try (first | (with_reducible refine dops_go ?_; simp [-cellOK, a3, a4, a5, a6, a8, a51, a52, a53, a11, a57, a58, a59, m4, m6, hjl, hy, hr', rgsAV, rg_cells, hrq, hrf, hrp, nw_cells, nw_fold, qy_cells, qy_fold, tk_cells, tk_fold, tk_putL, new_m, set_m, new_nx', n4, n6, d46, d64, w2]) | (with_reducible refine OKv_go ?_; simp [-cellOK, a3, a4, a5, a6, a8, a51, a52, a53, a11, a57, a58, a59, m4, m6, hjl, hy, hr', rgsAV, rg_cells, hrq, hrf, hrp, nw_cells, nw_fold, qy_cells, qy_fold, tk_cells, tk_fold, tk_putL, new_m, set_m, new_nx', n4, n6, d46, d64, w2]) | (with_reducible refine OKr_go ?_; simp [-cellOK, a3, a4, a5, a6, a8, a51, a52, a53, a11, a57, a58, a59, m4, m6, hjl, hy, hr', rgsAV, rg_cells, hrq, hrf, hrp, nw_cells, nw_fold, qy_cells, qy_fold, tk_cells, tk_fold, tk_putL, new_m, set_m, new_nx', n4, n6, d46, d64, w2]))); repeat' (first | refine awp_seq ?_ | refine awp_block ?_ | (refine awp_skip ?_; try simp) | (refine awp_exit ?_; try simp) | (refine awp_ret ?_; try simp) | (refine retP_same (by simp) ?_; simp) | (refine retP_no (by simp) (by simp [noIds]) (by repeat (first | assumption | exact Ext.refl _ | refine ext_new' ?_ | refine Ext.setF ?_ (by first | assumption | (simp [new_nx', St.set, fresh_none]; done) | exact ext_fresh (by assumption)))) ?_; simp [-cellOK, a3, a4, a5, a6, a8, a51, a52, a53, a11, a57, a58, a59, m4, m6, hjl, hy, hr', rgsAV, rg_cells, hrq, hrf, hrp, nw_cells, nw_fold, qy_cells, qy_fold, tk_cells, tk_fold, tk_putL, new_m, set_m, new_nx', n4, n6, d46, d64, w2, new_m, set_m, new_nx']) | (refine awp_reg ?_; simp [-cellOK, a3, a4, a5, a6, a8, a51, a52, a53, a11, a57, a58, a59, m4, m6, hjl, hy, hr', rgsAV, rg_cells, hrq, hrf, hrp, nw_cells, nw_fold, qy_cells, qy_fold, tk_cells, tk_fold, tk_putL, new_m, set_m, new_nx', n4, n6, d46, d64, w2]) | (refine awp_drawT (fun _ => false) mixed (by decide +kernel) ?_; simp [-cellOK, a3, a4, a5, a6, a8, a51, a52, a53, a11, a57, a58, a59, m4, m6, hjl, hy, hr', rgsAV, rg_cells, hrq, hrf, hrp, nw_cells, nw_fold, qy_cells, qy_fold, tk_cells, tk_fold, tk_putL, new_m, set_m, new_nx', n4, n6, d46, d64, w2]) | (refine guarded_split ?_ ?_ <;> (intro hg; simp only [hg]; simp [-cellOK, a3, a4, a5, a6, a8, a51, a52, a53, a11, a57, a58, a59, m4, m6, hjl, hy, hr', rgsAV, rg_cells, hrq, hrf, hrp, nw_cells, nw_fold, qy_cells, qy_fold, tk_cells, tk_fold, tk_putL, new_m, set_m, new_nx', n4, n6, d46, d64, w2])) | (apply awp_cond_t; focus (simp [-cellOK, a3, a4, a5, a6, a8, a51, a52, a53, a11, a57, a58, a59, m4, m6, hjl, hy, hr', rgsAV, rg_cells, hrq, hrf, hrp, nw_cells, nw_fold, qy_cells, qy_fold, tk_cells, tk_fold, tk_putL, new_m, set_m, new_nx', n4, n6, d46, d64, w2]; done)) | (apply awp_cond_f; focus (simp [-cellOK, a3, a4, a5, a6, a8, a51, a52, a53, a11, a57, a58, a59, m4, m6, hjl, hy, hr', rgsAV, rg_cells, hrq, hrf, hrp, nw_cells, nw_fold, qy_cells, qy_fold, tk_cells, tk_fold, tk_putL, new_m, set_m, new_nx', n4, n6, d46, d64, w2]; done)) | (refine awp_cond ?_; simp [-cellOK, a3, a4, a5, a6, a8, a51, a52, a53, a11, a57, a58, a59, m4, m6, hjl, hy, hr', rgsAV, rg_cells, hrq, hrf, hrp, nw_cells, nw_fold, qy_cells, qy_fold, tk_cells, tk_fold, tk_putL, new_m, set_m, new_nx', n4, n6, d46, d64, w2]; refine ⟨?_, ?_⟩ <;> intro hc) | (refine awp_drawT isCallO mixed (by decide +kernel) ?_; simp [-cellOK, a3, a4, a5, a6, a8, a51, a52, a53, a11, a57, a58, a59, m4, m6, hjl, hy, hr', rgsAV, rg_cells, hrq, hrf, hrp, nw_cells, nw_fold, qy_cells, qy_fold, tk_cells, tk_fold, tk_putL, new_m, set_m, new_nx', n4, n6, d46, d64, w2]) | (refine PCalls.use (h1) ?_; simp [-cellOK, a3, a4, a5, a6, a8, a51, a52, a53, a11, a57, a58, a59, m4, m6, hjl, hy, hr', rgsAV, rg_cells, hrq, hrf, hrp, nw_cells, nw_fold, qy_cells, qy_fold, tk_cells, tk_fold, tk_putL, new_m, set_m, new_nx', n4, n6, d46, d64, w2]) | (refine Or.inl ⟨_, Or.inl (h1), ?_⟩; simp [-cellOK, a3, a4, a5, a6, a8, a51, a52, a53, a11, a57, a58, a59, m4, m6, hjl, hy, hr', rgsAV, rg_cells, hrq, hrf, hrp, nw_cells, nw_fold, qy_cells, qy_fold, tk_cells, tk_fold, tk_putL, new_m, set_m, new_nx', n4, n6, d46, d64, w2]) | (refine PCalls.use (h2) ?_; simp [-cellOK, a3, a4, a5, a6, a8, a51, a52, a53, a11, a57, a58, a59, m4, m6, hjl, hy, hr', rgsAV, rg_cells, hrq, hrf, hrp, nw_cells, nw_fold, qy_cells, qy_fold, tk_cells, tk_fold, tk_putL, new_m, set_m, new_nx', n4, n6, d46, d64, w2]) | (refine Or.inl ⟨_, Or.inl (h2), ?_⟩; simp [-cellOK, a3, a4, a5, a6, a8, a51, a52, a53, a11, a57, a58, a59, m4, m6, hjl, hy, hr', rgsAV, rg_cells, hrq, hrf, hrp, nw_cells, nw_fold, qy_cells, qy_fold, tk_cells, tk_fold, tk_putL, new_m, set_m, new_nx', n4, n6, d46, d64, w2]) | (refine PCalls.use (hb) ?_; simp [-cellOK, a3, a4, a5, a6, a8, a51, a52, a53, a11, a57, a58, a59, m4, m6, hjl, hy, hr', rgsAV, rg_cells, hrq, hrf, hrp, nw_cells, nw_fold, qy_cells, qy_fold, tk_cells, tk_fold, tk_putL, new_m, set_m, new_nx', n4, n6, d46, d64, w2]) | (refine Or.inl ⟨_, Or.inl (hb), ?_⟩; simp [-cellOK, a3, a4, a5, a6, a8, a51, a52, a53, a11, a57, a58, a59, m4, m6, hjl, hy, hr', rgsAV, rg_cells, hrq, hrf, hrp, nw_cells, nw_fold, qy_cells, qy_fold, tk_cells, tk_fold, tk_putL, new_m, set_m, new_nx', n4, n6, d46, d64, w2]) | fail)
          refine hJ1 (P.length - (j + 1)) _ _ (by omega) ⟨(by repeat (first | assumption | exact Ext.refl _ | refine ext_new' ?_ | refine Ext.setF ?_ (by first | assumption | (simp [new_nx', St.set, fresh_none]; done) | exact ext_fresh (by assumption)))), by simp [a3], by simp [a4], by simp [a5], by simp [a6], ?_, ?_, by simp [a8, rgsAV], by simp [a51], by simp [a52], by simp [a53], by simp [a11], by simp [a57, rgsAV], by simp [a58], j + 1, by simp, by omega, rfl, hS⟩
          · simp [new_m, set_m, new_nx', n4, m4]
          · simp [new_m, set_m, new_nx', n6, m6]
      · have : j = P.length := by omega
        subst this
        rw [List.drop_length] at hS
        rw [hS] at hR
        simp only [seek] at hR
        (try (first | (with_reducible refine dops_go ?_; simp [-cellOK, a3, a4, a5, a6, a8, a51, a52, a53, a11, a57, a58, a59, w1]) | (with_reducible refine OKv_go ?_; simp [-cellOK, a3, a4, a5, a6, a8, a51, a52, a53, a11, a57, a58, a59, w1]) | (with_reducible refine OKr_go ?_; simp [-cellOK, a3, a4, a5, a6, a8, a51, a52, a53, a11, a57, a58, a59, w1]))); repeat' (first | refine awp_seq ?_ | refine awp_block ?_ | (refine awp_skip ?_; try simp) | (refine awp_exit ?_; try simp) | (refine awp_ret ?_; try simp) | (refine retP_same (by simp) ?_; simp) | (refine retP_no (by simp) (by simp [noIds]) (by repeat (first | assumption | exact Ext.refl _ | refine ext_new' ?_ | refine Ext.setF ?_ (by first | assumption | (simp [new_nx', St.set, fresh_none]; done) | exact ext_fresh (by assumption)))) ?_; simp [-cellOK, a3, a4, a5, a6, a8, a51, a52, a53, a11, a57, a58, a59, w1, new_m, set_m, new_nx']) | (refine awp_reg ?_; simp [-cellOK, a3, a4, a5, a6, a8, a51, a52, a53, a11, a57, a58, a59, w1]) | (refine awp_drawT (fun _ => false) mixed (by decide +kernel) ?_; simp [-cellOK, a3, a4, a5, a6, a8, a51, a52, a53, a11, a57, a58, a59, w1]) | (refine guarded_split ?_ ?_ <;> (intro hg; simp only [hg]; simp [-cellOK, a3, a4, a5, a6, a8, a51, a52, a53, a11, a57, a58, a59, w1])) | (apply awp_cond_t; focus (simp [-cellOK, a3, a4, a5, a6, a8, a51, a52, a53, a11, a57, a58, a59, w1]; done)) | (apply awp_cond_f; focus (simp [-cellOK, a3, a4, a5, a6, a8, a51, a52, a53, a11, a57, a58, a59, w1]; done)) | (refine awp_cond ?_; simp [-cellOK, a3, a4, a5, a6, a8, a51, a52, a53, a11, a57, a58, a59, w1]; refine ⟨?_, ?_⟩ <;> intro hc) | (refine awp_drawT isCallO mixed (by decide +kernel) ?_; simp [-cellOK, a3, a4, a5, a6, a8, a51, a52, a53, a11, a57, a58, a59, w1]) | fail)
        exact hI1 (Sq.length - (i + 1)) _ _ (by omega) ⟨hE, by simp [a3], by simp [a4], by simp [a5], by simp [a6], m4, m6, by simp [a8], by simp [a51], by simp [a52], i + 1, by simp, by omega, rfl, hR⟩
    · have : i = Sq.length := by omega
      subst this
      rw [List.drop_length] at hR
      simp only [seeks] at hR
      subst hR
      (try (first | (with_reducible refine dops_go ?_; simp [-cellOK, a3, a4, a5, a6, a8, a51, a52, a53, m6, vd0_cells, vd0_put]) | (with_reducible refine OKv_go ?_; simp [-cellOK, a3, a4, a5, a6, a8, a51, a52, a53, m6, vd0_cells, vd0_put]) | (with_reducible refine OKr_go ?_; simp [-cellOK, a3, a4, a5, a6, a8, a51, a52, a53, m6, vd0_cells, vd0_put]))); repeat' (first | refine awp_seq ?_ | refine awp_block ?_ | (refine awp_skip ?_; try simp) | (refine awp_exit ?_; try simp) | (refine awp_ret ?_; try simp) | (refine awp_reg ?_; simp [-cellOK, a3, a4, a5, a6, a8, a51, a52, a53, m6, vd0_cells, vd0_put]) | (refine awp_drawT (fun _ => false) mixed (by decide +kernel) ?_; simp [-cellOK, a3, a4, a5, a6, a8, a51, a52, a53, m6, vd0_cells, vd0_put]) | (refine guarded_split ?_ ?_ <;> (intro hg; simp only [hg]; simp [-cellOK, a3, a4, a5, a6, a8, a51, a52, a53, m6, vd0_cells, vd0_put])) | (apply awp_cond_t; focus (simp [-cellOK, a3, a4, a5, a6, a8, a51, a52, a53, m6, vd0_cells, vd0_put]; done)) | (apply awp_cond_f; focus (simp [-cellOK, a3, a4, a5, a6, a8, a51, a52, a53, m6, vd0_cells, vd0_put]; done)) | (refine awp_cond ?_; simp [-cellOK, a3, a4, a5, a6, a8, a51, a52, a53, m6, vd0_cells, vd0_put]; refine ⟨?_, ?_⟩ <;> intro hc) | (refine awp_drawT isCallO mixed (by decide +kernel) ?_; simp [-cellOK, a3, a4, a5, a6, a8, a51, a52, a53, m6, vd0_cells, vd0_put]) | fail)
      refine retP_weak (x := .tup [.agg [.raw (.bool true), .raw (.int .i64 0), .raw (.int .u32 0), .sl 0 [] true, .raw (.int .i64 0), .raw (.int .i64 0), .raw (.int .i64 0)], .raw (.int .i64 0)]) (.inr rfl) (Ext.setF hE f6) ?_ ?_
      · simp [set_m, m6, a6]
      · simpa [giveUps, giveUp] using weaker_vd true 0
/-- Are two verdicts alike? -/
theorem vdSame_calls (x y : Vd) (f g : Bool) (hx : x.tr.path.length < 2 ^ 60) (hy : y.tr.path.length < 2 ^ 60) : PCalls Try.prog 14 [vdAV x f, vdAV y g] (.raw (.bool (decide (x = y)))) := by
  have h := tkSame_calls x.tr y.tr f g hx hy
  have e : decide (x = y) = (decide (x.holds = y.holds) && (decide (x.src = y.src) && (decide (x.addr = y.addr) && decide (x.tr = y.tr)))) := by
    cases x; cases y; rw [Bool.eq_iff_iff]; simp
  rw [e]
  generalize decide (x.tr = y.tr) = b at h ⊢
  refine pbody Try.func14 rfl (N := 31) rfl rfl (by simp) (by simp [noIds]) fun σ => ?_
  have hb : (x.holds == y.holds) = decide (x.holds = y.holds) := by cases x.holds <;> cases y.holds <;> rfl
  by_cases h1 : x.holds = y.holds <;> by_cases h2 : x.src = y.src <;> by_cases h3 : x.addr = y.addr <;> ((try (first | (with_reducible refine dops_go ?_; simp [-cellOK, vd_cells, tk_fold, hb, h1, h2, h3]) | (with_reducible refine OKv_go ?_; simp [-cellOK, vd_cells, tk_fold, hb, h1, h2, h3]) | (with_reducible refine OKr_go ?_; simp [-cellOK, vd_cells, tk_fold, hb, h1, h2, h3]))); repeat' (first | refine awp_seq ?_ | refine awp_block ?_ | (refine awp_skip ?_; try simp) | (refine awp_exit ?_; try simp) | (refine awp_ret ?_; try simp) | (refine retP_same (by simp) ?_; simp) | (refine retP_no (by simp) (by simp [noIds]) (by repeat (first | assumption | exact Ext.refl _ | refine ext_new' ?_ | refine Ext.setF ?_ (by first | assumption | (simp [new_nx', St.set, fresh_none]; done) | exact ext_fresh (by assumption)))) ?_; simp [-cellOK, vd_cells, tk_fold, hb, h1, h2, h3, new_m, set_m, new_nx']) | (refine awp_reg ?_; simp [-cellOK, vd_cells, tk_fold, hb, h1, h2, h3]) | (refine awp_drawT (fun _ => false) mixed (by decide +kernel) ?_; simp [-cellOK, vd_cells, tk_fold, hb, h1, h2, h3]) | (refine guarded_split ?_ ?_ <;> (intro hg; simp only [hg]; simp [-cellOK, vd_cells, tk_fold, hb, h1, h2, h3])) | (apply awp_cond_t; focus (simp [-cellOK, vd_cells, tk_fold, hb, h1, h2, h3]; done)) | (apply awp_cond_f; focus (simp [-cellOK, vd_cells, tk_fold, hb, h1, h2, h3]; done)) | (refine awp_cond ?_; simp [-cellOK, vd_cells, tk_fold, hb, h1, h2, h3]; refine ⟨?_, ?_⟩ <;> intro hc) | (refine awp_drawT isCallO mixed (by decide +kernel) ?_; simp [-cellOK, vd_cells, tk_fold, hb, h1, h2, h3]) | (refine PCalls.use (h) ?_; simp [-cellOK, vd_cells, tk_fold, hb, h1, h2, h3]) | (refine Or.inl ⟨_, Or.inl (h), ?_⟩; simp [-cellOK, vd_cells, tk_fold, hb, h1, h2, h3]) | fail))
end Go.Proofs.Ytanimmdlgmkmkaa.Av


/- Networks: right networks. -/
namespace Go.Proofs.Ytanimmdlgmkmkaa.Av
open Go
set_option linter.unusedSimpArgs false
set_option linter.unusedVariables false
set_option maxRecDepth 100000
set_option maxHeartbeats 2000000
set_option pp.maxSteps 300

def rightN (n : Nw) : Bool := rightT n.t && (allB n.rules && fitsB n.t n.rules)
theorem rightN_calls (n : Nw) (f : Fl) (hl : n.t.ports.length < 2 ^ 60) (hl2 : n.t.links.length < 2 ^ 42) (hl3 : n.rules.length < 2932031007403) : PCalls Try.prog 46 [nwAV n f] (.raw (.bool (rightN n))) := by
  have h1 := right_calls n.t f hl hl2
  have h2 := all_calls n.rules f.r hl3
  have h3 := fits_calls n.t f n.rules f.r hl (by omega)
  unfold rightN
  obtain ⟨b1, q1⟩ : ∃ b, rightT n.t = b := ⟨_, rfl⟩
  obtain ⟨b2, q2⟩ : ∃ b, allB n.rules = b := ⟨_, rfl⟩
  obtain ⟨b3, q3⟩ : ∃ b, fitsB n.t n.rules = b := ⟨_, rfl⟩
  rw [q1] at h1 ⊢
  rw [q2] at h2 ⊢
  rw [q3] at h3 ⊢
  refine pbody Try.func46 rfl (N := 18) rfl rfl (by simp) (by simp [noIds]) fun σ => ?_
  have ho1 : cellOK (intsAV n.t.ports f.p) = true := rfl
  have ho2 : cellOK (linksAV n.t.links f.l) = true := rfl
  have ho3 : cellOK (rulesAV n.rules f.r) = true := rfl
  simp only [cellOK] at ho1 ho2 ho3
  have hnf : AV.agg [intsAV n.t.ports f.p, linksAV n.t.links f.l] = tpAV n.t f := rfl
  (try (first | (with_reducible refine dops_go ?_; simp [nw_cells, ho1, ho2, ho3, hnf]) | (with_reducible refine OKv_go ?_; simp [nw_cells, ho1, ho2, ho3, hnf]) | (with_reducible refine OKr_go ?_; simp [nw_cells, ho1, ho2, ho3, hnf]))); repeat' (first | refine awp_seq ?_ | refine awp_block ?_ | (refine awp_skip ?_; try simp) | (refine awp_exit ?_; try simp) | (refine awp_ret ?_; try simp) | (refine retP_same (by simp) ?_; simp) | (refine retP_flat (by simp) (by simp) (by simp (maxDischargeDepth := 30) [nw_cells, ho1, ho2, ho3, hnf]) ?_; simp) | (refine awp_reg ?_; simp [nw_cells, ho1, ho2, ho3, hnf]) | (refine awp_drawT (fun _ => false) mixed (by decide +kernel) ?_; simp [nw_cells, ho1, ho2, ho3, hnf]) | (refine guarded_split ?_ ?_ <;> (intro hg; simp only [hg]; simp [nw_cells, ho1, ho2, ho3, hnf])) | (apply awp_cond_t; focus (simp [nw_cells, ho1, ho2, ho3, hnf]; done)) | (apply awp_cond_f; focus (simp [nw_cells, ho1, ho2, ho3, hnf]; done)) | (refine awp_cond ?_; simp [nw_cells, ho1, ho2, ho3, hnf]; refine ⟨?_, ?_⟩ <;> intro hc))
  refine PCalls.use h1 ?_
  cases b1 with
  | false => (try (first | (with_reducible refine dops_go ?_; simp [nw_cells, ho1, ho2, ho3, hnf]) | (with_reducible refine OKv_go ?_; simp [nw_cells, ho1, ho2, ho3, hnf]) | (with_reducible refine OKr_go ?_; simp [nw_cells, ho1, ho2, ho3, hnf]))); repeat' (first | refine awp_seq ?_ | refine awp_block ?_ | (refine awp_skip ?_; try simp) | (refine awp_exit ?_; try simp) | (refine awp_ret ?_; try simp) | (refine retP_same (by simp) ?_; simp) | (refine retP_flat (by simp) (by simp) (by simp (maxDischargeDepth := 30) [nw_cells, ho1, ho2, ho3, hnf]) ?_; simp) | (refine awp_reg ?_; simp [nw_cells, ho1, ho2, ho3, hnf]) | (refine awp_drawT (fun _ => false) mixed (by decide +kernel) ?_; simp [nw_cells, ho1, ho2, ho3, hnf]) | (refine guarded_split ?_ ?_ <;> (intro hg; simp only [hg]; simp [nw_cells, ho1, ho2, ho3, hnf])) | (apply awp_cond_t; focus (simp [nw_cells, ho1, ho2, ho3, hnf]; done)) | (apply awp_cond_f; focus (simp [nw_cells, ho1, ho2, ho3, hnf]; done)) | (refine awp_cond ?_; simp [nw_cells, ho1, ho2, ho3, hnf]; refine ⟨?_, ?_⟩ <;> intro hc))
  | true =>
    (try (first | (with_reducible refine dops_go ?_; simp [nw_cells, ho1, ho2, ho3, hnf]) | (with_reducible refine OKv_go ?_; simp [nw_cells, ho1, ho2, ho3, hnf]) | (with_reducible refine OKr_go ?_; simp [nw_cells, ho1, ho2, ho3, hnf]))); repeat' (first | refine awp_seq ?_ | refine awp_block ?_ | (refine awp_skip ?_; try simp) | (refine awp_exit ?_; try simp) | (refine awp_ret ?_; try simp) | (refine retP_same (by simp) ?_; simp) | (refine retP_flat (by simp) (by simp) (by simp (maxDischargeDepth := 30) [nw_cells, ho1, ho2, ho3, hnf]) ?_; simp) | (refine awp_reg ?_; simp [nw_cells, ho1, ho2, ho3, hnf]) | (refine awp_drawT (fun _ => false) mixed (by decide +kernel) ?_; simp [nw_cells, ho1, ho2, ho3, hnf]) | (refine guarded_split ?_ ?_ <;> (intro hg; simp only [hg]; simp [nw_cells, ho1, ho2, ho3, hnf])) | (apply awp_cond_t; focus (simp [nw_cells, ho1, ho2, ho3, hnf]; done)) | (apply awp_cond_f; focus (simp [nw_cells, ho1, ho2, ho3, hnf]; done)) | (refine awp_cond ?_; simp [nw_cells, ho1, ho2, ho3, hnf]; refine ⟨?_, ?_⟩ <;> intro hc))
    refine PCalls.use h2 ?_
    cases b2 with
    | false => (try (first | (with_reducible refine dops_go ?_; simp [nw_cells, ho1, ho2, ho3, hnf]) | (with_reducible refine OKv_go ?_; simp [nw_cells, ho1, ho2, ho3, hnf]) | (with_reducible refine OKr_go ?_; simp [nw_cells, ho1, ho2, ho3, hnf]))); repeat' (first | refine awp_seq ?_ | refine awp_block ?_ | (refine awp_skip ?_; try simp) | (refine awp_exit ?_; try simp) | (refine awp_ret ?_; try simp) | (refine retP_same (by simp) ?_; simp) | (refine retP_flat (by simp) (by simp) (by simp (maxDischargeDepth := 30) [nw_cells, ho1, ho2, ho3, hnf]) ?_; simp) | (refine awp_reg ?_; simp [nw_cells, ho1, ho2, ho3, hnf]) | (refine awp_drawT (fun _ => false) mixed (by decide +kernel) ?_; simp [nw_cells, ho1, ho2, ho3, hnf]) | (refine guarded_split ?_ ?_ <;> (intro hg; simp only [hg]; simp [nw_cells, ho1, ho2, ho3, hnf])) | (apply awp_cond_t; focus (simp [nw_cells, ho1, ho2, ho3, hnf]; done)) | (apply awp_cond_f; focus (simp [nw_cells, ho1, ho2, ho3, hnf]; done)) | (refine awp_cond ?_; simp [nw_cells, ho1, ho2, ho3, hnf]; refine ⟨?_, ?_⟩ <;> intro hc))
    | true =>
      (try (first | (with_reducible refine dops_go ?_; simp [nw_cells, ho1, ho2, ho3, hnf]) | (with_reducible refine OKv_go ?_; simp [nw_cells, ho1, ho2, ho3, hnf]) | (with_reducible refine OKr_go ?_; simp [nw_cells, ho1, ho2, ho3, hnf]))); repeat' (first | refine awp_seq ?_ | refine awp_block ?_ | (refine awp_skip ?_; try simp) | (refine awp_exit ?_; try simp) | (refine awp_ret ?_; try simp) | (refine retP_same (by simp) ?_; simp) | (refine retP_flat (by simp) (by simp) (by simp (maxDischargeDepth := 30) [nw_cells, ho1, ho2, ho3, hnf]) ?_; simp) | (refine awp_reg ?_; simp [nw_cells, ho1, ho2, ho3, hnf]) | (refine awp_drawT (fun _ => false) mixed (by decide +kernel) ?_; simp [nw_cells, ho1, ho2, ho3, hnf]) | (refine guarded_split ?_ ?_ <;> (intro hg; simp only [hg]; simp [nw_cells, ho1, ho2, ho3, hnf])) | (apply awp_cond_t; focus (simp [nw_cells, ho1, ho2, ho3, hnf]; done)) | (apply awp_cond_f; focus (simp [nw_cells, ho1, ho2, ho3, hnf]; done)) | (refine awp_cond ?_; simp [nw_cells, ho1, ho2, ho3, hnf]; refine ⟨?_, ?_⟩ <;> intro hc))
      refine PCalls.use h3 ?_
      (try (first | (with_reducible refine dops_go ?_; simp [nw_cells, ho1, ho2, ho3, hnf]) | (with_reducible refine OKv_go ?_; simp [nw_cells, ho1, ho2, ho3, hnf]) | (with_reducible refine OKr_go ?_; simp [nw_cells, ho1, ho2, ho3, hnf]))); repeat' (first | refine awp_seq ?_ | refine awp_block ?_ | (refine awp_skip ?_; try simp) | (refine awp_exit ?_; try simp) | (refine awp_ret ?_; try simp) | (refine retP_same (by simp) ?_; simp) | (refine retP_flat (by simp) (by simp) (by simp (maxDischargeDepth := 30) [nw_cells, ho1, ho2, ho3, hnf]) ?_; simp) | (refine awp_reg ?_; simp [nw_cells, ho1, ho2, ho3, hnf]) | (refine awp_drawT (fun _ => false) mixed (by decide +kernel) ?_; simp [nw_cells, ho1, ho2, ho3, hnf]) | (refine guarded_split ?_ ?_ <;> (intro hg; simp only [hg]; simp [nw_cells, ho1, ho2, ho3, hnf])) | (apply awp_cond_t; focus (simp [nw_cells, ho1, ho2, ho3, hnf]; done)) | (apply awp_cond_f; focus (simp [nw_cells, ho1, ho2, ho3, hnf]; done)) | (refine awp_cond ?_; simp [nw_cells, ho1, ho2, ho3, hnf]; refine ⟨?_, ?_⟩ <;> intro hc))
end Go.Proofs.Ytanimmdlgmkmkaa.Av

