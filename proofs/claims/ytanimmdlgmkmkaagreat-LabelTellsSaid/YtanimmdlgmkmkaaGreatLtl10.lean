/- LabelTells: for every network, any device and atom, the labels are as the document says, or the error; no condition. Part 10 of 15: AvL10, AvL11, AvL12, AvL13. -/
import Derived.Test.YtanimmdlgmkmkaaGreatLtl9

/- label: labels that stand for a network (plain laws). -/
namespace Go.Proofs.YtanimmdlgmkmkaaGreat.Av
open Go
set_option linter.unusedSimpArgs false
set_option linter.unusedVariables false

theorem allFrom_iff {l : List Ru} {last : Int} : allFrom last l = true ↔ (∀ r ∈ l, ruleB r = true) ∧ (∀ r ∈ l, last < r.id) ∧ l.Pairwise fun r s => r.id < s.id := by
  induction l generalizing last with
  | nil => simp [allFrom]
  | cons x l ih =>
    simp only [allFrom, Bool.and_eq_true, decide_eq_true_eq, ih, List.forall_mem_cons, List.pairwise_cons]
    constructor
    · rintro ⟨⟨h1, h2⟩, h3, h4, h5⟩
      exact ⟨⟨h1, h3⟩, ⟨h2, fun r hr => by have := h4 r hr; omega⟩, h4, h5⟩
    · rintro ⟨⟨h1, h3⟩, ⟨h2, h6⟩, h4, h5⟩
      exact ⟨⟨h1, h2⟩, h3, h4, h5⟩
theorem right_srt {n : Nw} (h : rightN n = true) : n.rules.Pairwise fun r s => r.id < s.id := by
  unfold rightN allB at h
  simp only [Bool.and_eq_true] at h
  exact (allFrom_iff.1 h.2.1.1).2.2
theorem right_sub {n : Nw} {l : List Ru} (h : rightN n = true) (hs : l.Sublist n.rules) : rightN ⟨n.t, l⟩ = true := by
  unfold rightN allB fitsB at h ⊢
  simp only [Bool.and_eq_true, allFrom_iff, decide_eq_true_eq, Bool.not_eq_true', List.any_eq_false] at h ⊢
  obtain ⟨h1, ⟨⟨h2, h3, h4⟩, h5⟩, h6⟩ := h
  exact ⟨h1, ⟨⟨fun r hr => h2 r (hs.subset hr), fun r hr => h3 r (hs.subset hr), h4.sublist hs⟩, Nat.le_trans hs.length_le h5⟩, fun r hr => h6 r (hs.subset hr)⟩
theorem ok_sub {n : Nw} {l : List Ru} (h : NwOK n) (hs : l.Sublist n.rules) : NwOK ⟨n.t, l⟩ where
  rg := fun r hr => h.rg r (hs.subset hr)
  ports := h.ports
  links := h.links
  rules := Nat.lt_of_le_of_lt hs.length_le h.rules
  id := fun r hr => h.id r (hs.subset hr)

/-- What becomes at a device hangs on its rules alone. -/
theorem step_dev {t : Tp} {l m : List Ru} {d : Int} (h : l.filter (fun r => decide (r.dev = d)) = m.filter (fun r => decide (r.dev = d))) (a : Int) : stepF ⟨t, l⟩ d a = stepF ⟨t, m⟩ d a := by
  have key : ∀ (p : Ru → Bool), (∀ r, p r = true → r.dev = d) → l.filter p = m.filter p := fun p hp => by
    have e : ∀ k : List Ru, k.filter p = (k.filter fun r => decide (r.dev = d)).filter p := fun k => by
      rw [List.filter_filter]
      apply List.filter_congr
      intro r _
      cases hr : p r with
      | false => simp
      | true => simp [hp r hr]
    rw [e l, e m, h]
  have k1 := key (aclP d a) fun r hr => by
    unfold aclP takesB at hr
    simp only [Bool.and_eq_true, decide_eq_true_eq] at hr
    exact hr.2.1
  have k2 := key (fwdP d a) fun r hr => by
    unfold fwdP takesB at hr
    simp only [Bool.and_eq_true, decide_eq_true_eq] at hr
    exact hr.2.1
  have an : ∀ (p : Ru → Bool) (k : List Ru), k.any p = !(k.filter p).isEmpty := fun p k => by
    induction k with
    | nil => rfl
    | cons x k ih => by_cases hx : p x = true <;> simp [hx, ih]
  unfold stepF deniesB matchB matchR
  simp only [an, k1, k2]

def rgsN (n : Nw) : List Rg := n.rules.map (·.r)
/-- A device's labels, by the cuts of the rules' ranges. -/
def rowC (n : Nw) (d : Nat) : List Int := (atomsC (cutsL (rgsN n))).map fun r => atI n d r.lo
/-- Labels that stand for a network. -/
structure LabRep (L : Lab) (n : Nw) : Prop where
  net : L.n = n
  ok : NwOK n
  right : rightN n = true
  rep : TabRep (L.t.getD newTab) (rgsN n)
  rows : L.rows = (List.range n.t.ports.length).map (rowC n)

theorem atoms_at {R : List Rg} {i : Nat} (hi : i < (cutsL R).length) : ∃ q, (atomsC (cutsL R))[i]? = some q := ⟨_, List.getElem?_eq_getElem (by rw [atomsC_len]; exact hi)⟩
theorem rowL_rep {n : Nw} {T : Option Tab} (h : TabRep (T.getD newTab) (rgsN n)) (d : Nat) : rowL n T d = rowC n d := by
  apply List.ext_getElem?
  intro i
  unfold rowL rowC
  rw [rep_len h, List.getElem?_map, List.getElem?_map, Int.toNat_natCast]
  by_cases hi : i < (cutsL (rgsN n)).length
  · rw [List.getElem?_range hi, Option.map_some, rep_atom h, if_pos (by omega), Int.toNat_natCast]
    obtain ⟨q, hq⟩ := atoms_at hi
    rw [hq]; rfl
  · rw [List.getElem?_eq_none (by simp; omega), List.getElem?_eq_none (by rw [atomsC_len]; omega)]; rfl
/-- The atom in which an address lies. -/
theorem of_rep {T : Option Tab} {L : List Rg} (h : TabRep (T.getD newTab) L) {a : Int} (h0 : 0 ≤ a) (h1 : a < 4294967296) : ∃ (k : Nat) (r : Rg), ofT T a = k ∧ (atomsC (cutsL L))[k]? = some r ∧ r.lo ≤ a ∧ a ≤ r.hi := by
  have hc := cutsL_cuts L
  have hp := hc.pos h0
  obtain ⟨k, hk⟩ : ∃ k, (cutsL L).countP (fun y => decide (y ≤ a)) = k + 1 := ⟨_, (Nat.succ_pred_eq_of_pos hp).symm⟩
  have hle : k + 1 ≤ (cutsL L).length := by rw [← hk]; exact List.countP_le_length
  have hx : (cutsL L)[k]? = some (cutsL L)[k] := List.getElem?_eq_getElem (by omega)
  have hs := countP_srt hc.srt a
  refine ⟨k, _, by rw [rep_of h, hk]; omega, by rw [atomsC_get, hx]; rfl, ?_, ?_⟩
  · exact (hs k _ hx).2 (by omega)
  · simp only
    cases hy : (cutsL L)[k + 1]? with
    | none => simp only; omega
    | some y =>
      simp only
      have := (hs (k + 1) y hy)
      rw [hk] at this
      omega
theorem atom_in {n : Nw} (ho : NwOK n) {k : Nat} {r : Rg} (h : (atomsC (cutsL (rgsN n)))[k]? = some r) : 0 ≤ r.lo ∧ r.lo ≤ r.hi ∧ r.hi < 4294967296 := by
  have hc := cutsL_cuts (rgsN n)
  have hok : ∀ r ∈ rgsN n, RgOK r := fun r hr => by
    obtain ⟨x, hx, rfl⟩ := List.mem_map.1 hr
    exact ho.rg x hx
  rw [atomsC_get] at h
  have hrg : ∀ {x}, x ∈ cutsL (rgsN n) → 0 ≤ x ∧ x < 4294967296 := fun hx => hc.range hok hx
  have hs := hc.srt
  generalize cutsL (rgsN n) = c at h hrg hs
  cases hi : c[k]? with
  | none => rw [hi] at h; cases h
  | some x0 =>
    rw [hi] at h
    simp only [Option.map_some, Option.some.injEq] at h
    subst h
    have hil := (List.getElem?_eq_some_iff.1 hi).1
    have hiv : c[k] = x0 := (List.getElem?_eq_some_iff.1 hi).2
    have h0 := hrg (List.getElem_mem hil)
    rw [hiv] at h0
    by_cases hk : k + 1 < c.length
    · have e : c[k + 1]? = some c[k + 1] := List.getElem?_eq_getElem hk
      have h2 := hrg (List.getElem_mem hk)
      rw [List.pairwise_iff_getElem] at hs
      have h3 := hs k (k + 1) hil hk (by omega)
      simp only [e]
      refine ⟨?_, ?_, ?_⟩ <;> omega
    · have e : c[k + 1]? = none := List.getElem?_eq_none (by omega)
      simp only [e]
      refine ⟨?_, ?_, ?_⟩ <;> omega
theorem fares_in {n : Nw} {k : Nat} {r : Rg} (h : (atomsC (cutsL (rgsN n)))[k]? = some r) {a b : Int} (ha : r.lo ≤ a ∧ a ≤ r.hi) (hb : r.lo ≤ b ∧ b ≤ r.hi) (ha2 : a < 4294967296) (hb2 : b < 4294967296) (d : Int) : atI n d a = atI n d b := by
  have hs := side_atom h ha hb ha2 hb2
  unfold atI
  rw [step_same (fun x hx => List.mem_map.2 ⟨x, hx, rfl⟩) hs ha2 hb2 d]
theorem rows_get {L : Lab} {n : Nw} (h : LabRep L n) {d : Nat} (hd : d < n.t.ports.length) : L.rows[d]? = some (rowC n d) := by
  rw [h.rows, List.getElem?_map, List.getElem?_range hd]; rfl
theorem moved_ok {L : Lab} {n n' : Nw} (h : LabRep L n) {T : Option Tab} (hn : NwOK n') (hT : TabRep (T.getD newTab) (rgsN n')) {d : Nat} (i : Nat) (hi : (i : Int) < (T.getD newTab).b.sz) :
    0 ≤ ((atomT T i).getD ⟨0, 0⟩).lo ∧ ((atomT T i).getD ⟨0, 0⟩).lo < 4294967296 ∧ 0 ≤ ofT L.t ((atomT T i).getD ⟨0, 0⟩).lo ∧ ofT L.t ((atomT T i).getD ⟨0, 0⟩).lo < (rowC n d).length := by
  rw [rep_len hT] at hi
  obtain ⟨q, hx⟩ := atoms_at (R := rgsN n') (i := i) (by omega)
  rw [rep_atom hT, if_pos (by omega), Int.toNat_natCast, hx, Option.getD_some]
  obtain ⟨h1, h2, h3⟩ := atom_in hn hx
  obtain ⟨k, r, e1, e2, e3, e4⟩ := of_rep h.rep h1 (by omega)
  refine ⟨h1, by omega, by omega, ?_⟩
  rw [e1]
  have := (List.getElem?_eq_some_iff.1 e2).1
  unfold rowC
  rw [List.length_map]; omega
theorem movedL_rep {L : Lab} {n n' : Nw} (h : LabRep L n) {T : Option Tab} (hn : NwOK n') (hT : TabRep (T.getD newTab) (rgsN n')) {d : Nat} (hd : d < n.t.ports.length) (hs : ∀ a, atI n' d a = atI n d a) : movedL L T d = rowC n' d := by
  apply List.ext_getElem?
  intro i
  unfold movedL
  rw [rows_get h hd, rep_len hT, List.getElem?_map, Int.toNat_natCast]
  unfold rowC
  rw [List.getElem?_map]
  by_cases hi : i < (cutsL (rgsN n')).length
  · obtain ⟨q, hx⟩ := atoms_at hi
    rw [List.getElem?_range hi, Option.map_some, rep_atom hT, if_pos (by omega), Int.toNat_natCast, hx, Option.getD_some]
    obtain ⟨h1, h2, h3⟩ := atom_in hn hx
    obtain ⟨k, r, e1, e2, e3, e4⟩ := of_rep h.rep h1 (by omega)
    rw [e1, Int.toNat_natCast, Option.bind_some, List.getElem?_map, e2, Option.map_some, Option.map_some, Option.getD_some, hs, fares_in e2 ⟨Int.le_refl _, by omega⟩ ⟨e3, e4⟩ (by omega) (by omega)]
  · rw [List.getElem?_eq_none (by simp; omega), List.getElem?_eq_none (by rw [atomsC_len]; omega)]; rfl
/-- Labels of a network that differs by rules of one device. -/
theorem with_rep {L : Lab} {n n' : Nw} (h : LabRep L n) {T : Option Tab} {dev : Int} (ht : n'.t = n.t) (hn : NwOK n') (hr : rightN n' = true) (hT : TabRep (T.getD newTab) (rgsN n')) (hdev : ∀ d : Int, d ≠ dev → ∀ a, atI n' d a = atI n d a) : LabRep (withLab L n' T dev) n' where
  net := rfl
  ok := hn
  right := hr
  rep := hT
  rows := by
    show (List.range n'.t.ports.length).map (withRow L n' T dev) = _
    apply List.map_congr_left
    intro d hd
    rw [List.mem_range] at hd
    unfold withRow
    split
    · exact rowL_rep hT d
    · rename_i hne
      exact movedL_rep h hn hT (by rw [← ht]; exact hd) fun a => hdev d hne a
theorem rep_rules {n : Nw} (hn : NwOK n) (h : rightN n = true) : TabRep ((tabL n.rules).getD newTab) (rgsN n) := by
  have h1 := tabL_rep hn.rg n.rules.length (Nat.le_refl _)
  rw [List.take_length] at h1
  obtain ⟨hr, -⟩ := h1.get
  have hL : ((n.rules.map (·.r)).foldl stepL (some [])).getD [] = (n.rules.map (·.r)).reverse := by
    have h2 := right_rules h
    exact held_few (fun r hr => by obtain ⟨x, hx, rfl⟩ := List.mem_map.1 hr; exact rule_le (h2.1 x hx)) (by rw [List.length_map]; omega)
  rw [hL] at hr
  exact hr.perm (List.reverse_perm _)
theorem labOf_rep {n : Nw} (hn : NwOK n) (h : rightN n = true) : LabRep (labOf n) n where
  net := rfl
  ok := hn
  right := h
  rep := rep_rules hn h
  rows := by
    show (List.range n.t.ports.length).map (fun d : Nat => rowL n (tabL n.rules) d) = _
    apply List.map_congr_left
    intro d _
    exact rowL_rep (rep_rules hn h) d
end Go.Proofs.YtanimmdlgmkmkaaGreat.Av


/- label: Delete. -/
namespace Go.Proofs.YtanimmdlgmkmkaaGreat.Av
open Go
set_option linter.unusedSimpArgs false
set_option linter.unusedVariables false
set_option maxRecDepth 100000
set_option maxHeartbeats 4000000
set_option pp.maxSteps 600

def delN (n : Nw) (id : Int) : Nw := ⟨n.t, n.rules.eraseIdx (placeI n.rules id)⟩
def delR (n : Nw) (id : Int) : Ru := (n.rules[placeI n.rules id]?).getD ru0
def delLab (L : Lab) (n : Nw) (id : Int) : Lab := withLab L (delN n id) (dropT L.t (delR n id).r).1 (delR n id).dev
theorem here_lt {l : List Ru} {id : Int} (h : hereI l id = true) : placeI l id < l.length := by
  unfold hereI at h
  cases hx : l[placeI l id]? with
  | none => rw [hx] at h; cases h
  | some r => exact (List.getElem?_eq_some_iff.1 hx).1
theorem delR_get {n : Nw} {id : Int} (h : hereI n.rules id = true) : n.rules[placeI n.rules id]? = some (delR n id) := by
  unfold delR
  rw [List.getElem?_eq_getElem (here_lt h)]; rfl
theorem del_sub (n : Nw) (id : Int) : (delN n id).rules.Sublist n.rules := List.eraseIdx_sublist _ _
theorem del_perm {n : Nw} {id : Int} (h : hereI n.rules id = true) : (rgsN n).Perm ((delR n id).r :: rgsN (delN n id)) := by
  have h2 := delR_get h
  have hlt := here_lt h
  have h1 : n.rules = n.rules.take (placeI n.rules id) ++ delR n id :: n.rules.drop (placeI n.rules id + 1) := by
    conv => lhs; rw [← List.take_append_drop (placeI n.rules id) n.rules, List.drop_eq_getElem_cons hlt, (List.getElem?_eq_some_iff.1 h2).2]
  have h3 : n.rules.Perm (delR n id :: (delN n id).rules) := by
    unfold delN
    rw [List.eraseIdx_eq_take_drop_succ]
    conv => lhs; rw [h1]
    exact List.perm_middle
  exact h3.map (·.r)
/-- What the dropped range leaves. -/
theorem del_drop {L : Lab} {n : Nw} (h : LabRep L n) {id : Int} (hh : hereI n.rules id = true) :
    RgOK (delR n id).r ∧ cntT L.t (delR n id).r ≠ 0 ∧ WithOK (L.t.getD newTab) (delR n id).r (-1) ∧ (dropT L.t (delR n id).r).1 = some ((L.t.getD newTab).with_ (delR n id).r (-1)) ∧ TabRep ((dropT L.t (delR n id).r).1.getD newTab) (rgsN (delN n id)) := by
  have hm : delR n id ∈ n.rules := List.mem_of_getElem? (delR_get hh)
  have hok := h.ok.rg _ hm
  have hlen : (rgsN (delN n id)).length < 500 := by
    have := (right_rules h.right).2
    have := (del_sub n id).length_le
    unfold rgsN; rw [List.length_map]; omega
  obtain ⟨w1, w2⟩ := rep_drop (h.rep.perm (del_perm hh)) hlen
  have hc : cntT L.t (delR n id).r ≠ 0 := by
    unfold cntT
    rw [rep_count h.rep hok]
    have : 0 < (rgsN n).count (delR n id).r := List.count_pos_iff.2 (List.mem_map.2 ⟨_, hm, rfl⟩)
    omega
  have e : (dropT L.t (delR n id).r).1 = some ((L.t.getD newTab).with_ (delR n id).r (-1)) := by unfold dropT; rw [if_neg hc]
  exact ⟨hok, hc, w1, e, by rw [e]; exact w2⟩
theorem rep_size {T : Option Tab} {n : Nw} (h : TabRep (T.getD newTab) (rgsN n)) (hr : rightN n = true) : (T.getD newTab).b.sz < 2 ^ 40 := by
  rw [rep_len h]
  have hcc := cutsL_cuts (rgsN n)
  have hcl : (cutsL (rgsN n)).length ≤ 1 + 2 * (rgsN n).length := by
    have := nodup_le (m := 0 :: endsL (rgsN n)) (hcc.srt.imp fun h => by omega) fun x hx => by
      rw [List.mem_cons]; simp only [endsL, List.mem_flatMap]; exact (hcc.mem x).1 hx
    have := endsL_len (rgsN n)
    simp only [List.length_cons] at *
    omega
  have := (right_rules hr).2
  have e : (rgsN n).length = n.rules.length := by unfold rgsN; simp
  omega
theorem filter_erase {α : Type} {p : α → Bool} : ∀ {l : List α} {i : Nat} {x : α}, l[i]? = some x → p x = false → (l.eraseIdx i).filter p = l.filter p
  | [], _, _, h, _ => by simp at h
  | y :: l, 0, x, h, hp => by
    simp at h; subst h
    simp [hp]
  | y :: l, i + 1, x, h, hp => by
    simp at h
    rw [List.eraseIdx_cons_succ, List.filter_cons, List.filter_cons, filter_erase h hp]
theorem del_dev {n : Nw} {id : Int} (h : hereI n.rules id = true) (d : Int) (hd : d ≠ (delR n id).dev) (a : Int) : atI (delN n id) d a = atI n d a := by
  unfold atI delN
  rw [step_dev (filter_erase (delR_get h) (by simp; exact fun e => hd e.symm)) a]
theorem delLab_rep {L : Lab} {n : Nw} (h : LabRep L n) {id : Int} (hh : hereI n.rules id = true) : LabRep (delLab L n id) (delN n id) :=
  with_rep h rfl (ok_sub h.ok (del_sub n id)) (right_sub h.right (del_sub n id)) (del_drop h hh).2.2.2.2 (del_dev hh)

theorem del_calls {L : Lab} {n : Nw} (h : LabRep L n) (id : Int) (hh : hereI n.rules id = true) :
    PCalls Tryz.prog 39 [labO (some L), .raw (.int .i64 id)] (.tup [labO (some (delLab L n id)), .raw (.int .i64 0)]) := by
  have hf := find_calls L id (by rw [h.net]; have := h.ok.rules; omega) (by rw [h.net]; exact right_srt h.right)
  rw [h.net, hh] at hf
  obtain ⟨q1, q2, q3, q4, q5⟩ := del_drop h hh
  have hlt := here_lt hh
  have hx := delR_get hh
  have hrep := delLab_rep h hh
  obtain ⟨hpos, hp8⟩ := right_few h.right
  have hz2 := rep_size h.rep h.right
  have hz := rep_size q5 hrep.right
  have hdrop := tdrop_calls L.t (delR n id).r q1 fun _ => q3
  have hwith := withL_calls L (delN n id) (dropT L.t (delR n id).r).1 (delR n id).dev hrep.ok hpos hp8 hz hz2 fun d hd => ⟨_, rows_get h hd, fun i hi => moved_ok h hrep.ok q5 i hi⟩
  have hlen40 := (right_rules h.right).2
  have hLn := h.net
  have hok := h.ok
  have hne : n.rules ≠ [] := fun e => by rw [e] at hlt; simp at hlt
  have hkind : (dropT L.t (delR n id).r).2 = 0 := by unfold dropT; rw [if_neg q2]
  rw [hkind] at hdrop
  have hll : labO (some (delLab L n id)) = labO (some (withLab L (delN n id) (dropT L.t (delR n id).r).1 (delR n id).dev)) := rfl
  rw [hll]
  have hdn : delN n id = ⟨n.t, n.rules.eraseIdx (placeI n.rules id)⟩ := rfl
  have hids := labO_ids (fun _ => False) (some (withLab L (delN n id) (dropT L.t (delR n id).r).1 (delR n id).dev))
  generalize (dropT L.t (delR n id).r).1 = T' at *
  generalize withLab L (delN n id) T' (delR n id).dev = R at *
  generalize delR n id = r at *
  generalize placeI n.rules id = p at *
  clear q1 q2 q3 q4 q5 hrep hz hz2 h hll hkind
  have hfl : AV.agg [intsAV L.n.t.ports false, linksAV L.n.t.links false, rulesAV L.n.rules false] = nwAV n flN := by rw [hLn]; rfl
  refine pbody Tryz.func39 rfl (N := 55) rfl rfl (by simp) (by simp [noIds, hids]) fun σ => ?_
  have f8 : σ.m ⟨8, σ.nx 8, 3⟩ = none := fresh_none _ _ _
  (try (first | (with_reducible refine dops_go ?_; simp [-cellOK, labO, labC, hfl]) | (with_reducible refine OKv_go ?_; simp [-cellOK, labO, labC, hfl]) | (with_reducible refine OKr_go ?_; simp [-cellOK, labO, labC, hfl]))); repeat' (first | refine awp_seq ?_ | refine awp_block ?_ | (refine awp_skip ?_; try simp) | (refine awp_exit ?_; try simp) | (refine awp_ret ?_; try simp) | (refine awp_reg ?_; simp [-cellOK, labO, labC, hfl]) | (refine awp_drawT (fun _ => false) mixed (by decide +kernel) ?_; simp [-cellOK, labO, labC, hfl]) | (refine guarded_split ?_ ?_ <;> (intro hg; simp only [hg]; simp [-cellOK, labO, labC, hfl])) | (apply awp_cond_t; focus (simp [-cellOK, labO, labC, hfl]; done)) | (apply awp_cond_f; focus (simp [-cellOK, labO, labC, hfl]; done)) | (refine awp_cond ?_; simp [-cellOK, labO, labC, hfl]; refine ⟨?_, ?_⟩ <;> intro hc) | (refine awp_drawT isCallO mixed (by decide +kernel) ?_; simp [-cellOK, labO, labC, hfl]) | (refine PCalls.use (hf) ?_; simp [-cellOK, labO, labC, hfl]) | (refine Or.inl ⟨_, Or.inl (hf), ?_⟩; simp [-cellOK, labO, labC, hfl]) | fail)
  refine ownO_calls n flN hok hne fun v τ hO hE => ?_
  rcases hO with ⟨e, _⟩ | ⟨j, rfl, hj, hm, hn⟩
  · exact absurd (List.map_eq_nil_iff.1 e) hne
  rw [List.length_map]
  have hxp : n.rules[p] = r := (List.getElem?_eq_some_iff.1 hx).2
  have w1 : IntKind.i64.wrap ((p : Int) + 1) = ((p + 1 : Nat) : Int) := by rw [wrap64 (by omega) (by omega)]; omega
  have c1 : (intsAV n.t.ports false).cells = [intsAV n.t.ports false] := rfl
  have c2 : (linksAV n.t.links false).cells = [linksAV n.t.links false] := rfl
  have g8 : τ.m ⟨8, τ.nx 8, 3⟩ = none := fresh_none _ _ _
  have g9 : τ.m ⟨9, τ.nx 9, 7⟩ = none := fresh_none _ _ _
  have j8 : j ≠ ⟨8, τ.nx 8, 3⟩ := fun e => by rw [e, g8] at hm; cases hm
  have j9 : j ≠ ⟨9, τ.nx 9, 7⟩ := fun e => by rw [e, g9] at hm; cases hm
  (try (first | (with_reducible refine dops_go ?_; simp [-cellOK, labO, labC, new_m, set_m, new_nx', c1, c2, ru_cells, hm, hj, j8, j9, hlt, hxp, w1]) | (with_reducible refine OKv_go ?_; simp [-cellOK, labO, labC, new_m, set_m, new_nx', c1, c2, ru_cells, hm, hj, j8, j9, hlt, hxp, w1]) | (with_reducible refine OKr_go ?_; simp [-cellOK, labO, labC, new_m, set_m, new_nx', c1, c2, ru_cells, hm, hj, j8, j9, hlt, hxp, w1]))); repeat' (first | refine awp_seq ?_ | refine awp_block ?_ | (refine awp_skip ?_; try simp) | (refine awp_exit ?_; try simp) | (refine awp_ret ?_; try simp) | (refine awp_reg ?_; simp [-cellOK, labO, labC, new_m, set_m, new_nx', c1, c2, ru_cells, hm, hj, j8, j9, hlt, hxp, w1]) | (refine awp_drawT (fun _ => false) mixed (by decide +kernel) ?_; simp [-cellOK, labO, labC, new_m, set_m, new_nx', c1, c2, ru_cells, hm, hj, j8, j9, hlt, hxp, w1]) | (refine guarded_split ?_ ?_ <;> (intro hg; simp only [hg]; simp [-cellOK, labO, labC, new_m, set_m, new_nx', c1, c2, ru_cells, hm, hj, j8, j9, hlt, hxp, w1])) | (apply awp_cond_t; focus (simp [-cellOK, labO, labC, new_m, set_m, new_nx', c1, c2, ru_cells, hm, hj, j8, j9, hlt, hxp, w1]; done)) | (apply awp_cond_f; focus (simp [-cellOK, labO, labC, new_m, set_m, new_nx', c1, c2, ru_cells, hm, hj, j8, j9, hlt, hxp, w1]; done)) | (refine awp_cond ?_; simp [-cellOK, labO, labC, new_m, set_m, new_nx', c1, c2, ru_cells, hm, hj, j8, j9, hlt, hxp, w1]; refine ⟨?_, ?_⟩ <;> intro hc) | (refine awp_drawT isCallO mixed (by decide +kernel) ?_; simp [-cellOK, labO, labC, new_m, set_m, new_nx', c1, c2, ru_cells, hm, hj, j8, j9, hlt, hxp, w1]) | fail)
  refine ruDelete_calls (l := n.rules) (i := p) hlt (by omega) hj (by simp [new_m, set_m, new_nx', hm, j8, j9]) fun τ2 m1 m2 m3 => ?_
  have e8 : τ2.m ⟨8, τ.nx 8, 3⟩ = some (.buf [.agg [intsAV n.t.ports false, linksAV n.t.links false, .rs j 0 n.rules.length]]) := by
    rw [m2 _ (Ne.symm j8)]; simp [new_m, set_m, new_nx']
  have e9 : τ2.m ⟨9, τ.nx 9, 7⟩ = some (.buf [ruAV r]) := by
    rw [m2 _ (Ne.symm j9)]; simp [new_m, set_m, new_nx']; rfl
  have hE2 : Ext σ τ2 := by
    refine ⟨fun i o h => ?_, fun s => ?_⟩
    · have q1 : i ≠ j := fun e => by rw [e, hn] at h; cases h
      have h' := hE.m i o h
      have q8 : i ≠ ⟨8, τ.nx 8, 3⟩ := fun e => by rw [e, g8] at h'; cases h'
      have q9 : i ≠ ⟨9, τ.nx 9, 7⟩ := fun e => by rw [e, g9] at h'; cases h'
      rw [m2 i q1]; simp [new_m, set_m, new_nx', q8, q9, h']
    · have := hE.nx s
      rw [m3]
      simp only [St.set, St.new]
      repeat' split
      all_goals omega
  have s8 : σ.m ⟨8, τ.nx 8, 3⟩ = none := by
    cases h : σ.m ⟨8, τ.nx 8, 3⟩ with
    | none => rfl
    | some o => rw [hE.m _ _ h] at g8; cases g8
  have s9 : σ.m ⟨9, τ.nx 9, 7⟩ = none := by
    cases h : σ.m ⟨9, τ.nx 9, 7⟩ with
    | none => rfl
    | some o => rw [hE.m _ _ h] at g9; cases g9
  have i89 : (⟨8, τ.nx 8, 3⟩ : Id) ≠ ⟨9, τ.nx 9, 7⟩ := by simp
  clear m2 m3 hE g8 g9 f8 hm
  generalize (⟨8, τ.nx 8, 3⟩ : Id) = i8 at *
  generalize (⟨9, τ.nx 9, 7⟩ : Id) = i9 at *
  (try (first | (with_reducible refine dops_go ?_; simp [labO, labC, e8, e9]) | (with_reducible refine OKv_go ?_; simp [labO, labC, e8, e9]) | (with_reducible refine OKr_go ?_; simp [labO, labC, e8, e9])))
  generalize hπ : τ2.set i8 _ = π
  have p8 : π.m i8 = some (.buf [.agg [intsAV n.t.ports false, linksAV n.t.links false, .rs j 0 (n.rules.length - 1)]]) := by rw [← hπ, set_hit e8]
  have p9 : π.m i9 = some (.buf [ruAV r]) := by rw [← hπ, set_ne (Ne.symm i89)]; exact e9
  have pj : π.m j = some (.buf ((n.rules.eraseIdx p ++ [ru0]).map ruAV)) := by rw [← hπ, set_ne j8]; exact m1
  have hE3 : Ext σ π := by rw [← hπ]; exact Ext.setF hE2 s8
  clear hπ e8 e9 m1 hE2
  generalize hA : put 55 _ _ _ = A
  have a0 : A 0 = labO (some L) := by rw [← hA]; simp [labO, labC]
  have a8 : A 8 = .rp i8 0 0 := by rw [← hA]; simp
  have a9 : A 9 = .rp i9 0 0 := by rw [← hA]; simp
  clear hA
  refine awp_freeze i8 ?_
  refine awp_freezeD j ?_
  refine awp_freeze i9 ?_
  have g1 : ∀ (m m' : Mem) l b, giveUp m' m (intsAV l b) = intsAV l b := fun _ _ _ _ => rfl
  have g2 : ∀ (m m' : Mem) l b, giveUp m' m (linksAV l b) = linksAV l b := fun _ _ _ _ => rfl
  have fin : ((π.del i8).del j).m i9 = some (.buf [ruAV r]) := by rw [del_other (Ne.symm j9), del_other (Ne.symm i89)]; exact p9
  have b8 : giveUp (((π.del i8).del j).del i9).m ((π.del i8).del j).m (giveUpD ((π.del i8).del j).m (π.del i8).m (giveUp (π.del i8).m π.m (A 8))) = .pp (nwAV (delN n id) flN).cells 0 := by
    rw [a8, giveUp_rp_made (by simp [St.del]) p8 rfl]
    simp only [giveUpD, AV.cells, List.map_cons, List.map_nil, g1, g2]
    rw [giveUp_rs_made (by simp [St.del]) (by rw [del_other j8]; exact pj) (by simp [List.length_eraseIdx_of_lt hlt]), hj]
    simp only [giveUp, hdn, nw_cells, rulesAV, flN, List.drop_zero]
    congr 4
    rw [← List.map_take, List.take_left' (List.length_eraseIdx_of_lt hlt)]
    rfl
  have b9 : giveUp (((π.del i8).del j).del i9).m ((π.del i8).del j).m (giveUpD ((π.del i8).del j).m (π.del i8).m (giveUp (π.del i8).m π.m (A 9))) = .pp (ruAV r).cells 0 := by
    rw [a9, giveUp_rp_ne (Ne.symm i89)]
    simp only [giveUpD]
    rw [giveUp_rp_ne (Ne.symm j9), giveUp_rp_made (by simp [St.del]) fin rfl]
  have b0 : giveUp (((π.del i8).del j).del i9).m ((π.del i8).del j).m (giveUpD ((π.del i8).del j).m (π.del i8).m (giveUp (π.del i8).m π.m (A 0))) = labO (some L) := by
    rw [a0]
    simp [labO, labC, giveUp, giveUpD, intsAV, linksAV, rulesAV]
    cases L.t <;> rfl
  have hE4 : Ext σ (((π.del i8).del j).del i9) := by
    refine ⟨fun i o h => ?_, hE3.nx⟩
    rw [del_other (fun e => by rw [e, s9] at h; cases h), del_other (fun e => by rw [e, hn] at h; cases h), del_other (fun e => by rw [e, s8] at h; cases h)]
    exact hE3.m i o h
  generalize hA' : (fun t => giveUp _ _ _) = A'
  have c0 : A' 0 = labO (some L) := by rw [← hA']; exact b0
  have c8 : A' 8 = .pp (nwAV (delN n id) flN).cells 0 := by rw [← hA']; exact b8
  have c9 : A' 9 = .pp (ruAV r).cells 0 := by rw [← hA']; exact b9
  clear hA' b0 b8 b9 fin a0 a8 a9 p8 p9 pj hE3
  generalize ((π.del i8).del j).del i9 = ρ at *
  generalize delN n id = n' at *
  (try (first | (with_reducible refine dops_go ?_; simp [-cellOK, c0, c8, c9, labO, labC, nw_cells, nw_fold, ru_cells, rg_fold]) | (with_reducible refine OKv_go ?_; simp [-cellOK, c0, c8, c9, labO, labC, nw_cells, nw_fold, ru_cells, rg_fold]) | (with_reducible refine OKr_go ?_; simp [-cellOK, c0, c8, c9, labO, labC, nw_cells, nw_fold, ru_cells, rg_fold]))); repeat' (first | refine awp_seq ?_ | refine awp_block ?_ | (refine awp_skip ?_; try simp) | (refine awp_exit ?_; try simp) | (refine awp_ret ?_; try simp) | (refine retP_same (by simp) ?_; simp) | (refine retP_no (by simp) (by simp [noIds]) (by repeat (first | assumption | exact Ext.refl _ | refine ext_new' ?_ | refine Ext.setF ?_ (by first | assumption | (simp [new_nx', St.set, fresh_none]; done) | exact ext_fresh (by assumption)))) ?_; simp [-cellOK, c0, c8, c9, labO, labC, nw_cells, nw_fold, ru_cells, rg_fold, new_m, set_m, new_nx']) | (refine awp_reg ?_; simp [-cellOK, c0, c8, c9, labO, labC, nw_cells, nw_fold, ru_cells, rg_fold]) | (refine awp_drawT (fun _ => false) mixed (by decide +kernel) ?_; simp [-cellOK, c0, c8, c9, labO, labC, nw_cells, nw_fold, ru_cells, rg_fold]) | (refine guarded_split ?_ ?_ <;> (intro hg; simp only [hg]; simp [-cellOK, c0, c8, c9, labO, labC, nw_cells, nw_fold, ru_cells, rg_fold])) | (apply awp_cond_t; focus (simp [-cellOK, c0, c8, c9, labO, labC, nw_cells, nw_fold, ru_cells, rg_fold]; done)) | (apply awp_cond_f; focus (simp [-cellOK, c0, c8, c9, labO, labC, nw_cells, nw_fold, ru_cells, rg_fold]; done)) | (refine awp_cond ?_; simp [-cellOK, c0, c8, c9, labO, labC, nw_cells, nw_fold, ru_cells, rg_fold]; refine ⟨?_, ?_⟩ <;> intro hc) | (refine awp_drawT isCallO mixed (by decide +kernel) ?_; simp [-cellOK, c0, c8, c9, labO, labC, nw_cells, nw_fold, ru_cells, rg_fold]) | (refine PCalls.use (hdrop) ?_; simp [-cellOK, c0, c8, c9, labO, labC, nw_cells, nw_fold, ru_cells, rg_fold]) | (refine Or.inl ⟨_, Or.inl (hdrop), ?_⟩; simp [-cellOK, c0, c8, c9, labO, labC, nw_cells, nw_fold, ru_cells, rg_fold]) | (refine PCalls.use (hwith) ?_; simp [-cellOK, c0, c8, c9, labO, labC, nw_cells, nw_fold, ru_cells, rg_fold]) | (refine Or.inl ⟨_, Or.inl (hwith), ?_⟩; simp [-cellOK, c0, c8, c9, labO, labC, nw_cells, nw_fold, ru_cells, rg_fold]) | fail)
end Go.Proofs.YtanimmdlgmkmkaaGreat.Av


/- label: the live question. -/
namespace Go.Proofs.YtanimmdlgmkmkaaGreat.Av
open Go
set_option linter.unusedSimpArgs false
set_option linter.unusedVariables false
set_option maxRecDepth 100000
set_option maxHeartbeats 4000000
set_option pp.maxSteps 600

theorem netN_right : rightN netN = true := by decide +kernel
theorem netN_here : hereI netN.rules 5 = true := by decide +kernel
theorem net_at1 : atLab (labOf netN) 2 1 = some (-3) := by decide +kernel
theorem net_at2 : atLab (delLab (labOf netN) netN 5) 2 1 = some (-1) := by decide +kernel
theorem net_atom : atomT (labOf netN).t 1 = some ⟨20, 24⟩ := by decide +kernel
theorem net_len1 : ((labOf netN).t.getD newTab).b.sz = 7 := by decide +kernel
theorem net_len2 : ((delLab (labOf netN) netN 5).t.getD newTab).b.sz = 5 := by decide +kernel
theorem rows_small {L : Lab} {n : Nw} (h : LabRep L n) : L.rows.length < 2 ^ 60 ∧ ∀ r ∈ L.rows, r.length < 2 ^ 60 := by
  have h1 := (right_few h.right).2
  have h2 := rep_size h.rep h.right
  rw [rep_len h.rep] at h2
  refine ⟨by rw [h.rows]; simp; omega, fun r hr => ?_⟩
  rw [h.rows] at hr
  obtain ⟨d, -, rfl⟩ := List.mem_map.1 hr
  unfold rowC
  rw [List.length_map, atomsC_len]; omega
theorem alive10_calls : PCalls Tryz.prog 23 [] (.raw (.bool true)) := by
  have hn := net_calls
  have r1 := labOf_rep netN_ok netN_right
  have r2 := delLab_rep r1 netN_here
  have hof := of_calls netN flN netN_ok
  have e0 : ofL netN = (some (labOf netN), 0) := by unfold ofL; rw [netN_right]; rfl
  rw [e0] at hof
  have hd := del_calls r1 5 netN_here
  have ha1 := labAt_calls (labOf netN) 2 1 (rows_small r1).1 (rows_small r1).2
  have ha2 := labAt_calls (delLab (labOf netN) netN 5) 2 1 (rows_small r2).1 (rows_small r2).2
  have hat := labAtom_calls (some (labOf netN)) 1 fun M h => by injection h with h; rw [← h, net_len1]; decide
  have hl1 := labAtoms_calls (some (labOf netN))
  have hl2 := labAtoms_calls (some (delLab (labOf netN) netN 5))
  rw [net_at1] at ha1
  rw [net_at2] at ha2
  simp only [Option.bind_some, net_atom, Option.getD_some, Option.isSome_some] at ha1 ha2 hat
  simp only [net_len1] at hl1
  simp only [net_len2] at hl2
  have hrg : rgAV ⟨20, 24⟩ = .agg [.raw (.int .u32 20), .raw (.int .u32 24)] := rfl
  rw [hrg] at hat
  have hids1 := labO_ids (fun _ => False) (some (labOf netN))
  have hids2 := labO_ids (fun _ => False) (some (delLab (labOf netN) netN 5))
  obtain ⟨L, hL⟩ : ∃ L, labOf netN = L := ⟨_, rfl⟩
  obtain ⟨M, hM⟩ : ∃ M, delLab (labOf netN) netN 5 = M := ⟨_, rfl⟩
  rw [hM] at hd ha2 hl2 hids2
  rw [hL] at hof hd ha1 hat hl1 hids1
  obtain ⟨cL, hcL⟩ : ∃ c, labC L = c := ⟨_, rfl⟩
  have e1 : labO (some L) = .pp cL 0 := by rw [← hcL]; rfl
  rw [e1] at hof hd ha1 hat hl1 hids1
  clear r1 r2 e0 hL hM e1 hcL
  generalize netN = N at hn hof
  refine pbody Tryz.func23 rfl (N := 76) rfl rfl (by simp) (by simp [noIds]) fun σ => ?_
  (try (first | (with_reducible refine dops_go ?_; simp [-cellOK, nw_cells, nw_fold, new_m, set_m, new_nx']) | (with_reducible refine OKv_go ?_; simp [-cellOK, nw_cells, nw_fold, new_m, set_m, new_nx']) | (with_reducible refine OKr_go ?_; simp [-cellOK, nw_cells, nw_fold, new_m, set_m, new_nx']))); repeat' (first | refine awp_seq ?_ | refine awp_block ?_ | (refine awp_skip ?_; try simp) | (refine awp_exit ?_; try simp) | (refine awp_ret ?_; try simp) | (refine retP_same (by simp) ?_; simp) | (refine retP_no (by simp) (by simp [noIds]) (by repeat (first | assumption | exact Ext.refl _ | refine ext_new' ?_ | refine Ext.setF ?_ (by first | assumption | (simp [new_nx', St.set, fresh_none]; done) | exact ext_fresh (by assumption)))) ?_; simp [-cellOK, nw_cells, nw_fold, new_m, set_m, new_nx', new_m, set_m, new_nx']) | (refine awp_reg ?_; simp [-cellOK, nw_cells, nw_fold, new_m, set_m, new_nx']) | (refine awp_drawT (fun _ => false) mixed (by decide +kernel) ?_; simp [-cellOK, nw_cells, nw_fold, new_m, set_m, new_nx']) | (refine guarded_split ?_ ?_ <;> (intro hg; simp only [hg]; simp [-cellOK, nw_cells, nw_fold, new_m, set_m, new_nx'])) | (apply awp_cond_t; focus (simp [-cellOK, nw_cells, nw_fold, new_m, set_m, new_nx']; done)) | (apply awp_cond_f; focus (simp [-cellOK, nw_cells, nw_fold, new_m, set_m, new_nx']; done)) | (refine awp_cond ?_; simp [-cellOK, nw_cells, nw_fold, new_m, set_m, new_nx']; refine ⟨?_, ?_⟩ <;> intro hc) | (refine awp_drawT isCallO mixed (by decide +kernel) ?_; simp [-cellOK, nw_cells, nw_fold, new_m, set_m, new_nx']) | (refine PCalls.use (hn) ?_; simp [-cellOK, nw_cells, nw_fold, new_m, set_m, new_nx']) | (refine Or.inl ⟨_, Or.inl (hn), ?_⟩; simp [-cellOK, nw_cells, nw_fold, new_m, set_m, new_nx']) | (refine PCalls.use (hof) ?_; simp [-cellOK, nw_cells, nw_fold, new_m, set_m, new_nx']) | (refine Or.inl ⟨_, Or.inl (hof), ?_⟩; simp [-cellOK, nw_cells, nw_fold, new_m, set_m, new_nx']) | (refine PCalls.use (hd) ?_; simp [-cellOK, nw_cells, nw_fold, new_m, set_m, new_nx']) | (refine Or.inl ⟨_, Or.inl (hd), ?_⟩; simp [-cellOK, nw_cells, nw_fold, new_m, set_m, new_nx']) | (refine PCalls.use (ha1) ?_; simp [-cellOK, nw_cells, nw_fold, new_m, set_m, new_nx']) | (refine Or.inl ⟨_, Or.inl (ha1), ?_⟩; simp [-cellOK, nw_cells, nw_fold, new_m, set_m, new_nx']) | (refine PCalls.use (ha2) ?_; simp [-cellOK, nw_cells, nw_fold, new_m, set_m, new_nx']) | (refine Or.inl ⟨_, Or.inl (ha2), ?_⟩; simp [-cellOK, nw_cells, nw_fold, new_m, set_m, new_nx']) | (refine PCalls.use (hat) ?_; simp [-cellOK, nw_cells, nw_fold, new_m, set_m, new_nx']) | (refine Or.inl ⟨_, Or.inl (hat), ?_⟩; simp [-cellOK, nw_cells, nw_fold, new_m, set_m, new_nx']) | (refine PCalls.use (hl1) ?_; simp [-cellOK, nw_cells, nw_fold, new_m, set_m, new_nx']) | (refine Or.inl ⟨_, Or.inl (hl1), ?_⟩; simp [-cellOK, nw_cells, nw_fold, new_m, set_m, new_nx']) | (refine PCalls.use (hl2) ?_; simp [-cellOK, nw_cells, nw_fold, new_m, set_m, new_nx']) | (refine Or.inl ⟨_, Or.inl (hl2), ?_⟩; simp [-cellOK, nw_cells, nw_fold, new_m, set_m, new_nx']) | fail)
end Go.Proofs.YtanimmdlgmkmkaaGreat.Av


/- label: the network of labels; no labels; the law LabelNil walked. -/
namespace Go.Proofs.YtanimmdlgmkmkaaGreat.Av
open Go
set_option linter.unusedSimpArgs false
set_option linter.unusedVariables false
set_option maxRecDepth 100000
set_option maxHeartbeats 4000000
set_option pp.maxSteps 600

def nw0AV : AV := .agg [.sl 0 [] true, .sl 0 [] true, .sl 0 [] true]
theorem labNet_calls (L : Lab) (hn : NwOK L.n) : PCalls Tryz.prog 79 [labO (some L)] (nwAV L.n flN) := by
  have h := own_calls L.n flN hn
  have hfl : AV.agg [intsAV L.n.t.ports false, linksAV L.n.t.links false, rulesAV L.n.rules false] = nwAV L.n flN := rfl
  have hnp : setPart (AV.agg [.sl 0 [] true, .sl 0 [] true, .sl 0 [] true]) 0 [intsAV L.n.t.ports flN.p, linksAV L.n.t.links flN.l, rulesAV L.n.rules flN.r] = nwAV L.n flN := rfl
  refine pbody Tryz.func79 rfl (N := 11) rfl rfl (by simp) (by simp [noIds]) fun σ => ?_
  (try (first | (with_reducible refine dops_go ?_; simp [-cellOK, labO, labC, hfl, nw_cells, nw_fold, hnp, new_m, set_m, new_nx']) | (with_reducible refine OKv_go ?_; simp [-cellOK, labO, labC, hfl, nw_cells, nw_fold, hnp, new_m, set_m, new_nx']) | (with_reducible refine OKr_go ?_; simp [-cellOK, labO, labC, hfl, nw_cells, nw_fold, hnp, new_m, set_m, new_nx']))); repeat' (first | refine awp_seq ?_ | refine awp_block ?_ | (refine awp_skip ?_; try simp) | (refine awp_exit ?_; try simp) | (refine awp_ret ?_; try simp) | (refine retP_same (by simp) ?_; simp) | (refine retP_no (by simp) (by simp [noIds]) (by repeat (first | assumption | exact Ext.refl _ | refine ext_new' ?_ | refine Ext.setF ?_ (by first | assumption | (simp [new_nx', St.set, fresh_none]; done) | exact ext_fresh (by assumption)))) ?_; simp [-cellOK, labO, labC, hfl, nw_cells, nw_fold, hnp, new_m, set_m, new_nx', new_m, set_m, new_nx']) | (refine awp_reg ?_; simp [-cellOK, labO, labC, hfl, nw_cells, nw_fold, hnp, new_m, set_m, new_nx']) | (refine awp_drawT (fun _ => false) mixed (by decide +kernel) ?_; simp [-cellOK, labO, labC, hfl, nw_cells, nw_fold, hnp, new_m, set_m, new_nx']) | (refine guarded_split ?_ ?_ <;> (intro hg; simp only [hg]; simp [-cellOK, labO, labC, hfl, nw_cells, nw_fold, hnp, new_m, set_m, new_nx'])) | (apply awp_cond_t; focus (simp [-cellOK, labO, labC, hfl, nw_cells, nw_fold, hnp, new_m, set_m, new_nx']; done)) | (apply awp_cond_f; focus (simp [-cellOK, labO, labC, hfl, nw_cells, nw_fold, hnp, new_m, set_m, new_nx']; done)) | (refine awp_cond ?_; simp [-cellOK, labO, labC, hfl, nw_cells, nw_fold, hnp, new_m, set_m, new_nx']; refine ⟨?_, ?_⟩ <;> intro hc) | (refine awp_drawT isCallO mixed (by decide +kernel) ?_; simp [-cellOK, labO, labC, hfl, nw_cells, nw_fold, hnp, new_m, set_m, new_nx']) | (refine PCalls.use (h) ?_; simp [-cellOK, labO, labC, hfl, nw_cells, nw_fold, hnp, new_m, set_m, new_nx']) | (refine Or.inl ⟨_, Or.inl (h), ?_⟩; simp [-cellOK, labO, labC, hfl, nw_cells, nw_fold, hnp, new_m, set_m, new_nx']) | fail)
end Go.Proofs.YtanimmdlgmkmkaaGreat.Av

