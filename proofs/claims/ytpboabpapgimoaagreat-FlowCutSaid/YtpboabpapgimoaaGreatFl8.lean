/- Flows: FlowTells, FlowDiffers, FlowCut, FlowFares. Part 8 of 14: AvT9, AvT10, AvN26, AvN27, AvN28, AvN29, AvN30, AvN15, AvN18, AvN19, AvN20, AvN21, AvN32, AvN23, AvN24, AvN16, AvN31, AvN33, AvL1, AvL2, AvL3, AvL4, AvF1, AvZ1, AvZ2, AvZ4, AvZ5, AvZ6, AvZ3, AvP3, AvL7, AvL8, AvL9, AvL5, AvL10, AvL11, AvL12, AvL13. -/
import Derived.Test.YtpboabpapgimoaaGreatFl6
import Derived.Test.YtpboabpapgimoaaGreatFl7
namespace Go.Proofs.YtpboabpapgimoaaGreat.Av
set_option linter.unusedSimpArgs false
set_option linter.unusedVariables false
def zgX (x : Int) : List Int → List Int
  | [] => [x]
  | y :: l => if x < y then x :: y :: l else if y < x then y :: zgX x l else y :: l
theorem ziN (x z : Int) : ∀ l : List Int, z ∈ zgX x l ↔ z = x ∨ z ∈ l
  | [] => by simp [zgX]
  | y :: l => by
    simp only [zgX]
    split
    · simp
    · split
      · simp only [List.mem_cons, ziN x z l]
        constructor
        · rintro (h | h | h)
          · exact .inr (.inl h)
          · exact .inl h
          · exact .inr (.inr h)
        · rintro (h | h | h)
          · exact .inr (.inl h)
          · exact .inl h
          · exact .inr (.inr h)
      · have : x = y := by omega
        subst this; simp
theorem zmo (x : Int) : ∀ l : List Int, l.Pairwise (· < ·) → (zgX x l).Pairwise (· < ·)
  | [], _ => by simp [zgX]
  | y :: l, h => by
    obtain ⟨h1, h2⟩ := List.pairwise_cons.1 h
    simp only [zgX]
    split
    · rename_i hx
      refine List.pairwise_cons.2 ⟨fun z hz => ?_, h⟩
      rcases List.mem_cons.1 hz with rfl | hz
      · exact hx
      · have := h1 z hz; omega
    · split
      · rename_i hx
        refine List.pairwise_cons.2 ⟨fun z hz => ?_, zmo x l h2⟩
        rcases (ziN x z l).1 hz with rfl | hz
        · exact hx
        · exact h1 z hz
      · exact h
def zaF (L : List Rg) : List Int := (0 :: zcB L).foldr zgX []
theorem zbt (L : List Rg) : Cuts (zaF L) L where
  srt := by
    unfold zaF
    generalize 0 :: zcB L = l
    induction l with
    | nil => simp
    | cons x l ih => exact zmo x _ ih
  mem := fun x => by
    have : ∀ l : List Int, x ∈ l.foldr zgX [] ↔ x ∈ l := fun l => by
      induction l with
      | nil => simp
      | cons y l ih => rw [List.foldr_cons, ziN, ih, List.mem_cons]
    unfold zaF
    rw [this, List.mem_cons]
    simp only [zcB, List.mem_flatMap]
theorem Cuts.eq {c : List Int} {L : List Rg} (h : Cuts c L) : c = zaF L := zf1 h.srt (zbt L).srt fun x => by rw [h.mem, (zbt L).mem]
theorem znb {c : List Int} {a b : Int} (h : a ≤ b) : c.countP (fun y => decide (y ≤ a)) ≤ c.countP (fun y => decide (y ≤ b)) := by
  induction c with
  | nil => simp
  | cons y c ih =>
    simp only [List.countP_cons]
    by_cases q : y ≤ a
    · have : y ≤ b := by omega
      simp [q, this]; exact ih
    · by_cases q2 : y ≤ b
      · simp [q, q2]; omega
      · simp [q, q2]; exact ih
theorem Cuts.pos {c : List Int} {L : List Rg} (h : Cuts c L) {a : Int} (ha : 0 ≤ a) : 0 < c.countP (fun y => decide (y ≤ a)) :=
  List.countP_pos_iff.2 ⟨0, (h.mem 0).2 (.inl rfl), by simpa using ha⟩
theorem zhD {c : List Int} {L : List Rg} (h : Cuts c L) {r : Rg} (hr : RgOK r) (hle : r.lo ≤ r.hi) {p q : Nat} (hp : c.countP (fun y => decide (y ≤ r.lo)) = p + 1) (hq : c.countP (fun y => decide (y ≤ r.hi)) = q + 1) :
    p ≤ q ∧ q < (zaE c).length ∧ zee c r = (List.range (q + 1 - p)).map fun k => ⟨max ((zaE c).getD (p + k) ⟨0, 0⟩).lo r.lo, min ((zaE c).getD (p + k) ⟨0, 0⟩).hi r.hi⟩ := by
  have hmono := znb (c := c) hle
  have hlen : c.countP (fun y => decide (y ≤ r.hi)) ≤ c.length := List.countP_le_length
  have hA := zcx c
  have hpq : p ≤ q := by omega
  have hqc : q < c.length := by omega
  refine ⟨hpq, by omega, ?_⟩
  obtain ⟨a1, a2, a3, a4⟩ := hr
  have hlo := zgV h.srt r.lo
  have hhi := zgV h.srt r.hi
  rw [hp] at hlo
  rw [hq] at hhi
  have get := zdt c
  generalize hAe : zaE c = A at *
  unfold zee
  rw [hAe]
  have split3 : A = A.take p ++ ((A.drop p).take (q + 1 - p) ++ A.drop (q + 1)) := by
    have e : A.drop (q + 1) = (A.drop p).drop (q + 1 - p) := by rw [List.drop_drop]; congr 1; omega
    rw [e, List.take_append_drop, List.take_append_drop]
  have f1 : (A.take p).filterMap (zbu r) = [] := by
    rw [List.filterMap_eq_nil_iff]
    intro a ha
    obtain ⟨i, hi⟩ := List.mem_iff_getElem?.1 ha
    rw [List.getElem?_take] at hi
    split at hi
    · rename_i hip
      rw [get i] at hi
      have hi1 : c[i + 1]? = some c[i + 1] := List.getElem?_eq_getElem (by omega)
      have hi0 : c[i]? = some c[i] := List.getElem?_eq_getElem (by omega)
      have := (hlo (i + 1) _ hi1).2 (by omega)
      rw [hi0, hi1] at hi
      simp only [Option.map_some, Option.some.injEq] at hi
      subst hi
      unfold zbu
      rw [if_neg]
      simp only []
      omega
    · cases hi
  have f3 : (A.drop (q + 1)).filterMap (zbu r) = [] := by
    rw [List.filterMap_eq_nil_iff]
    intro a ha
    obtain ⟨i, hi⟩ := List.mem_iff_getElem?.1 ha
    rw [List.getElem?_drop, get] at hi
    cases hc : c[q + 1 + i]? with
    | none => rw [hc] at hi; cases hi
    | some x =>
      have := hhi _ _ hc
      rw [hc] at hi
      simp only [Option.map_some, Option.some.injEq] at hi
      subst hi
      unfold zbu
      rw [if_neg]
      simp only []
      omega
  rw [split3, List.filterMap_append, List.filterMap_append, f1, f3, List.nil_append, List.append_nil, ← split3]
  have hn : ((A.drop p).take (q + 1 - p)).length = q + 1 - p := by rw [List.length_take, List.length_drop]; omega
  have g : ∀ k, k < q + 1 - p → ∀ a, A[p + k]? = some a → zbu r a = some ⟨max a.lo r.lo, min a.hi r.hi⟩ := by
    intro k hk a ha
    rw [get] at ha
    have hi0 : c[p + k]? = some c[p + k] := List.getElem?_eq_getElem (by omega)
    have b1 := (hhi (p + k) _ hi0).2 (by omega)
    rw [hi0] at ha
    simp only [Option.map_some, Option.some.injEq] at ha
    subst ha
    unfold zbu
    rw [if_pos]
    simp only []
    cases hc : c[p + k + 1]? with
    | none => simp only []; omega
    | some y =>
      have := (hlo (p + k + 1) y hc)
      simp only []
      have hs := List.pairwise_iff_getElem.1 h.srt (p + k) (p + k + 1) (by omega) (by have := (List.getElem?_eq_some_iff.1 hc).1; omega) (by omega)
      have hy := (List.getElem?_eq_some_iff.1 hc).2
      omega
  have hfm : ∀ (G : Rg → Rg) (l : List Rg), (∀ a ∈ l, zbu r a = some (G a)) → l.filterMap (zbu r) = l.map G := by
    intro G l
    induction l with
    | nil => intro _; rfl
    | cons a l ih =>
      intro hx
      rw [List.filterMap_cons, hx a (by simp), List.map_cons, ih fun b hb => hx b (by simp [hb])]
  rw [hfm (fun a => ⟨max a.lo r.lo, min a.hi r.hi⟩) _ fun a ha => ?_]
  · apply List.ext_getElem?
    intro k
    rw [List.getElem?_map, List.getElem?_map, List.getElem?_take, List.getElem?_drop]
    by_cases hk : k < q + 1 - p
    · rw [if_pos hk, List.getElem?_range hk]
      have hx : A[p + k]? = some A[p + k] := List.getElem?_eq_getElem (by omega)
      simp only [hx, Option.map_some, List.getD_eq_getElem?_getD, Option.getD_some]
    · rw [if_neg hk, List.getElem?_eq_none (by simp; omega)]
      rfl
  · obtain ⟨k, hk⟩ := List.mem_iff_getElem?.1 ha
    rw [List.getElem?_take] at hk
    split at hk
    · rename_i hkk
      rw [List.getElem?_drop] at hk
      exact g k hkk a hk
    · cases hk
def zcD (s : Option (List Rg)) (r : Rg) : Option (List Rg) := if r.hi < r.lo then none else if 500 ≤ (s.getD []).length then none else some (r :: s.getD [])
def RepO : Option Tab → Option (List Rg) → Prop
  | none, none => True
  | some T, some L => TabRep T L ∧ L.length ≤ 500
  | _, _ => False
theorem RepO.get {T : Option Tab} {s : Option (List Rg)} (h : RepO T s) : TabRep (T.getD zW) (s.getD []) ∧ (s.getD []).length ≤ 500 := by
  cases T with
  | none => cases s with
    | none => exact ⟨zki, by simp⟩
    | some L => exact h.elim
  | some T => cases s with
    | none => exact h.elim
    | some L => exact h
theorem RepO.step {T : Option Tab} {s : Option (List Rg)} (h : RepO T s) {r : Rg} (hr : RgOK r) :
    (r.lo ≤ r.hi → (T.getD zW).n < 500 → WithOK (T.getD zW) r 1) ∧ RepO (zf0 T r).1 (zcD s r) := by
  obtain ⟨h1, h2⟩ := h.get
  have hn := h1.n
  refine ⟨fun _ hlt => (znq h1 hr (by omega)).1, ?_⟩
  unfold zf0 zcD
  by_cases q1 : r.hi < r.lo
  · rw [if_pos q1, if_pos q1]; trivial
  · rw [if_neg q1, if_neg q1]
    by_cases q2 : 500 ≤ (s.getD []).length
    · rw [if_pos q2, if_pos (by omega)]; trivial
    · rw [if_neg q2, if_neg (by omega)]
      exact ⟨(znq h1 hr (by omega)).2, by simp only [List.length_cons]; omega⟩
def zgY (L : List Rg) : List Rg := (L.foldl zcD (some [])).getD []
theorem zmp {L : List Rg} (hle : ∀ r ∈ L, r.lo ≤ r.hi) (hl : L.length ≤ 500) : zgY L = L.reverse := by
  have : ∀ (L M : List Rg), (∀ r ∈ L, r.lo ≤ r.hi) → L.length + M.length ≤ 500 → L.foldl zcD (some M) = some (L.reverse ++ M) := by
    intro L
    induction L with
    | nil => intro M _ _; rfl
    | cons r L ih =>
      intro M h1 h2
      have := h1 r (by simp)
      simp only [List.length_cons] at h2
      have e : zcD (some M) r = some (r :: M) := by
        unfold zcD
        rw [if_neg (by omega), if_neg (by simp only [Option.getD_some]; omega)]; rfl
      rw [List.foldl_cons, e, ih _ (fun x hx => h1 x (by simp [hx])) (by simp only [List.length_cons]; omega)]
      simp
  unfold zgY
  rw [this L [] hle (by simpa using hl)]
  simp
theorem Cuts.perm {c : List Int} {L M : List Rg} (h : Cuts c L) (p : L.Perm M) : Cuts c M := ⟨h.srt, fun x => by
  rw [h.mem]
  constructor
  · rintro (h | ⟨r, hr, hx⟩)
    · exact .inl h
    · exact .inr ⟨r, p.mem_iff.1 hr, hx⟩
  · rintro (h | ⟨r, hr, hx⟩)
    · exact .inl h
    · exact .inr ⟨r, p.mem_iff.2 hr, hx⟩⟩
theorem zjE {L M : List Rg} (p : L.Perm M) : zaF L = zaF M := ((zbt L).perm p).eq
theorem zjF {T : Option Tab} {L : List Rg} (h : TabRep (T.getD zW) L) (a : Int) : ofT T a = ((zaF L).countP (fun y => decide (y ≤ a)) : Nat) - 1 := by
  unfold ofT zeQ
  rw [Tr.cut_len _ _ h.b.srt, ← (ziM h).eq]
  unfold zeE
  rw [List.countP_map]
  congr 2
  apply List.countP_congr
  intro e _
  simp only [Function.comp_apply, decide_eq_true_eq]
  omega
theorem znr {T : Option Tab} {L : List Rg} (h : TabRep (T.getD zW) L) : (T.getD zW).b.sz = (zaF L).length := by
  rw [Tr.sz_toL, ← (ziM h).eq]; unfold zeE; simp
theorem zmq {T : Option Tab} {L : List Rg} (h : TabRep (T.getD zW) L) (i : Int) : zgU T i = if 0 ≤ i then (zaE (zaF L))[i.toNat]? else none := by
  have hc := ziM h
  have hr : ∀ {x}, x ∈ zeE (T.getD zW) → 0 ≤ x ∧ x < 4294967296 := fun hx => hc.range h.ok hx
  rw [← hc.eq]
  unfold zgU
  by_cases h0 : 0 ≤ i
  · rw [if_pos h0]
    have e1 : (T.getD zW).b.atI i = (T.getD zW).b.toL[i.toNat]? := by unfold Tr.atI; rw [if_pos h0, Tr.at_eq _ _ h0]
    have e2 : (T.getD zW).b.atI (i + 1) = (T.getD zW).b.toL[i.toNat + 1]? := by
      unfold Tr.atI; rw [if_pos (by omega), Tr.at_eq _ _ (by omega)]; congr 1; omega
    have e3 : ∀ j : Nat, (zeE (T.getD zW))[j]? = ((T.getD zW).b.toL[j]?).map fun e : Int × Int => e.1 := fun j => by unfold zeE; rw [List.getElem?_map]
    rw [e1, e2, zdt, e3, e3]
    cases hp : (T.getD zW).b.toL[i.toNat]? with
    | none => rfl
    | some p =>
      have hpm : p.1 ∈ zeE (T.getD zW) := List.mem_map.2 ⟨p, List.mem_of_getElem? hp, rfl⟩
      have hpr := hr hpm
      simp only [Option.map_some, Option.some.injEq, Rg.mk.injEq]
      refine ⟨zc1 (by omega) (by omega), ?_⟩
      cases hq : (T.getD zW).b.toL[i.toNat + 1]? with
      | none =>
        show IntKind.u32.wrap 4294967295 = 4294967295
        exact zc1 (by omega) (by omega)
      | some q =>
        have hqm : q.1 ∈ zeE (T.getD zW) := List.mem_map.2 ⟨q, List.mem_of_getElem? hq, rfl⟩
        have hqr := hr hqm
        have hlt := List.pairwise_iff_getElem.1 h.b.srt i.toNat (i.toNat + 1) (List.getElem?_eq_some_iff.1 hp).1 (List.getElem?_eq_some_iff.1 hq).1 (by omega)
        rw [(List.getElem?_eq_some_iff.1 hp).2, (List.getElem?_eq_some_iff.1 hq).2] at hlt
        simp only [Option.map_some]
        rw [zbo (by omega) (by omega), zc1 (by omega) (by omega)]
  · rw [if_neg h0]
    have e1 : (T.getD zW).b.atI i = none := by unfold Tr.atI; rw [if_neg h0]
    rw [e1]; rfl
end Go.Proofs.YtpboabpapgimoaaGreat.Av
namespace Go.Proofs.YtpboabpapgimoaaGreat.Av
open Go
set_option linter.unusedSimpArgs false
set_option linter.unusedVariables false
set_option maxRecDepth 100000
set_option maxHeartbeats 4000000
set_option pp.maxSteps 600
def zaN (l : List (Nw × Fl)) (f : Bool) : AV := .sl 3 (l.map fun p => zR p.1 p.2) f
def z9 (l : List Rg) (f : Bool) : AV := .sl 2 (l.map zp) f
@[simp] theorem zh5 (K : Id → Prop) (l : List Rg) (f : Bool) : (z9 l f).ids K := by simp only [z9, AV.ids]; exact zeo (zrq K) l
def zal (l : List Nw) : List Rg := l.flatMap fun n => n.rules.map (·.r)
def zba (l : List Nw) (r : Rg) : List Rg := if r.hi < r.lo then [] else zee (zaF (zgY (zal l))) r
structure NwOK (n : Nw) : Prop where
  rg : ∀ r ∈ n.rules, RgOK r.r
  ports : n.t.ports.length < 2 ^ 44
  links : n.t.links.length < 2 ^ 42
  rules : n.rules.length < 2932031007403
  id : ∀ r ∈ n.rules, -9223372036854775808 ≤ r.id ∧ r.id < 9223372036854775808
theorem zhE (l : List (Nw × Fl)) (f : Bool) (r : Rg) (hr : RgOK r) (hn : ∀ p ∈ l, NwOK p.1) (hl : l.length < 2 ^ 40) :
    PCalls Tryz.prog 21 [zaN l f, zp r] (.tup [z9 (zba (l.map (·.1)) r) false, .raw (.int .i64 (if r.hi < r.lo then 31 else 0))]) := by
  refine zE Tryz.func21 rfl (N := 76) rfl rfl (by simp) (by simp [noIds]) fun σ => ?_
  have hrf : ∀ x y : Int, AV.agg [.raw (.int .u32 x), .raw (.int .u32 y)] = zp ⟨x, y⟩ := fun _ _ => rfl
  have f3 : σ.m ⟨3, σ.nx 3, 2⟩ = none := zc _ _ _
  by_cases q0 : r.hi < r.lo
  · unfold zba
    rw [if_pos q0, if_pos q0]
    have FF := fI @rg_cells (fI @hrf @q0); refine gxC ?_; clear FF
    refine zct (x := .tup [.sl 0 [] true, .raw (.int .i64 31)]) (.inr rfl) exA ?_ ?_
    · simp
    · simp only [z0, List.map_cons, List.map_nil, zr]
      exact weaker_tup zaT
  rw [if_neg q0]
  refine zf ?_
  have C0 := zec; have FF := fI @rg_cells (fI @hrf @q0); refine gxC ?_; clear FF
  refine z8 ⟨3, σ.nx 3, 2⟩ ?_
  generalize hτ : St.del _ _ = τ
  generalize hA : (fun t => zr _ _ _) = A
  have a3 : A 3 = .pp [.raw (.int .u32 r.lo), .raw (.int .u32 r.hi)] 0 := by rw [← hA, ← hτ]; simp [zr, St.new, St.del, rg_cells]
  have a6 : A 6 = za1 (some zW) := by rw [← hA]; simp [za1, zdi]
  have a21 : A 21 = zaN l f := by rw [← hA]; simp [zaN]
  have a22 : A 22 = .raw (.int .i64 l.length) := by rw [← hA]; simp [zaN]
  have a23 : A 23 = .raw (.int .i64 0) := by rw [← hA]; simp
  have hE : Ext σ τ := by
    rw [← hτ]
    refine ⟨fun i o h => ?_, fun s => ?_⟩
    · rw [zU (fun e => by rw [e, zc] at h; cases h)]
      exact zaz _ _ h
    · exact St.new_le σ 3 2 (.buf [zp r]) s
  clear hτ hA
  refine zO (fun n B ρ => Ext σ ρ ∧ B 3 = .pp [.raw (.int .u32 r.lo), .raw (.int .u32 r.hi)] 0 ∧ B 21 = zaN l f ∧ B 22 = .raw (.int .i64 l.length) ∧ ∃ (i : Nat) (T : Option Tab) (s : Option (List Rg)), B 23 = .raw (.int .i64 i) ∧ i ≤ l.length ∧ n = l.length - i ∧ B 6 = za1 T ∧ RepO T s ∧ s = (zal ((l.take i).map (·.1))).foldl zcD (some [])) l.length ?_ ?_
  · exact ⟨hE, a3, a21, a22, 0, some zW, some [], a23, by omega, by omega, a6, ⟨zki, by simp⟩, by simp [zal]⟩
  clear hE a3 a6 a21 a22 a23
  rintro n B ρ ⟨hE, a3, a21, a22, i, T, s, a23, hi, rfl, a6, hrep, hs⟩ I1 hI1
  by_cases hlt : i < l.length
  · have hx : l[i]? = some l[i] := List.getElem?_eq_getElem hlt
    have w1 : IntKind.i64.wrap ((i : Int) + 1) = ((i + 1 : Nat) : Int) := by rw [zo (by omega) (by omega)]; omega
    obtain ⟨nf, hnf⟩ : ∃ nf, l[i] = nf := ⟨_, rfl⟩
    have hok : NwOK nf.1 := hn nf (by rw [← hnf]; exact List.getElem_mem hlt)
    have hsum : zal ((l.take (i + 1)).map (·.1)) = zal ((l.take i).map (·.1)) ++ nf.1.rules.map (·.r) := by
      rw [List.take_add_one, hx, hnf]; simp [zal]
    obtain ⟨N, fl⟩ := nf
    have hrl : N.rules.length < 2932031007403 := hok.rules
    have hnn : zR N fl = .agg [zh N.t.ports fl.p, zC N.t.links fl.l, zz N.rules fl.r] := rfl
    have hnp : ∀ z : AV, z.cells.length = 3 → setPart (AV.agg [.sl 0 [] true, .sl 0 [] true, .sl 0 [] true]) 0 z.cells = .agg z.cells := fun z hz => by
      obtain ⟨a, b, c, h⟩ : ∃ a b c, z.cells = [a, b, c] := by
        match hh : z.cells with
        | [a, b, c] => exact ⟨a, b, c, rfl⟩
        | [] => rw [hh] at hz; cases hz
        | [_] => rw [hh] at hz; cases hz
        | [_, _] => rw [hh] at hz; cases hz
        | _ :: _ :: _ :: _ :: _ => rw [hh] at hz; simp at hz
      rw [h]; rfl
    have FF := fI @a3 (fI @a6 (fI @a21 (fI @a22 (fI @a23 (fI zaN.eq_1 (fI @hlt (fI @hx (fI @hnf (fI @hnn @ze))))))))); refine gxB ?_; clear FF
    refine zO (fun n C τ => Ext σ τ ∧ C 3 = .pp [.raw (.int .u32 r.lo), .raw (.int .u32 r.hi)] 0 ∧ C 21 = zaN l f ∧ C 22 = .raw (.int .i64 l.length) ∧ C 23 = .raw (.int .i64 i) ∧ C 28 = zz N.rules fl.r ∧ C 29 = .raw (.int .i64 N.rules.length) ∧ ∃ (j : Nat) (T : Option Tab) (s' : Option (List Rg)), C 30 = .raw (.int .i64 j) ∧ j ≤ N.rules.length ∧ n = N.rules.length - j ∧ C 6 = za1 T ∧ RepO T s' ∧ s' = ((N.rules.take j).map (·.r)).foldl zcD s) N.rules.length ?_ ?_
    · exact ⟨exA, by simp [a3], by simp [a21, zaN], by simp [a22], by simp [a23], by simp [zz], by simp [zz], 0, T, s, by simp, by omega, by omega, by simp [a6], hrep, by simp⟩
    clear hE a3 a6 a21 a22 a23 hrep
    rintro n C τ ⟨hE, a3, a21, a22, a23, a28, a29, j, T, s', a30, hj, rfl, a6, hrep, hs'⟩ J1 hJ1
    by_cases hjl : j < N.rules.length
    · have hxj : N.rules[j]? = some N.rules[j] := List.getElem?_eq_getElem hjl
      have w2 : IntKind.i64.wrap ((j : Int) + 1) = ((j + 1 : Nat) : Int) := by rw [zo (by omega) (by omega)]; omega
      have hrk := hok.rg _ (List.getElem_mem hjl)
      have hst : ((N.rules.take (j + 1)).map (·.r)).foldl zcD s = zcD s' N.rules[j].r := by
        rw [List.take_add_one, hxj, List.map_append, List.foldl_append, ← hs']; rfl
      obtain ⟨x, hxe⟩ : ∃ x, N.rules[j] = x := ⟨_, rfl⟩
      rw [hxe] at hrk hst
      obtain ⟨g1, g2⟩ := hrep.step hrk
      have hadd := zkY T x.r g1
      have hxr : AV.agg [.raw (.int .u32 x.r.lo), .raw (.int .u32 x.r.hi)] = zp x.r := rfl
      generalize (zf0 T x.r).1 = T' at hadd g2
      generalize (zf0 T x.r).2 = e' at hadd
      have FF := fI @a3 (fI @a6 (fI @a21 (fI @a22 (fI @a23 (fI @a28 (fI @a29 (fI @a30 (fI zz.eq_1 (fI @hjl (fI @hxj (fI @hxe (fI @zM (fI @hxr @w2))))))))))))); refine gxB ?_; clear FF
      refine hJ1 (N.rules.length - (j + 1)) _ _ (by omega) ⟨exA, by simp [a3], by simp [a21], by simp [a22], by simp [a23], by simp [a28], by simp [a29], j + 1, T', zcD s' x.r, by simp, by omega, rfl, by simp, g2, hst.symm⟩
    · have : j = N.rules.length := by omega
      subst this
      rw [List.take_length] at hs'
      have FF := fI @a3 (fI @a6 (fI @a21 (fI @a22 (fI @a23 (fI @a28 (fI @a29 (fI @a30 @w1))))))); refine gxB ?_; clear FF
      refine hI1 (l.length - (i + 1)) _ _ (by omega) ⟨hE, by simp [a3], by simp [a21], by simp [a22], i + 1, T, s', by simp, by omega, rfl, by simp [a6], hrep, ?_⟩
      rw [hsum, List.foldl_append, ← hs, hs']
  · have : i = l.length := by omega
    subst this
    rw [List.take_length] at hs
    have hL : zgY (zal (l.map (·.1))) = s.getD [] := by rw [hs]; rfl
    obtain ⟨hrp, hsl⟩ := hrep.get
    unfold zba
    rw [if_neg q0, hL]
    clear hs hL hI1 hrep
    generalize s.getD [] = L at hrp hsl ⊢
    obtain ⟨r0, r1, r2, r3⟩ := hr
    have hcc := zbt L
    have hcl : (zaF L).length ≤ 1 + 2 * L.length := by
      have := zeq (m := 0 :: zcB L) (hcc.srt.imp fun h => by omega) fun x hx => by
        rw [List.mem_cons]; simp only [zcB, List.mem_flatMap]; exact (hcc.mem x).1 hx
      have := zfO L
      simp only [List.length_cons] at *
      omega
    have hbz : (T.getD zW).b.sz < 2 ^ 40 := by rw [znr hrp]; omega
    have k1 := hcc.pos (a := r.lo) r0
    have k2 := hcc.pos (a := r.hi) r2
    obtain ⟨p, hp⟩ : ∃ p, (zaF L).countP (fun y => decide (y ≤ r.lo)) = p + 1 := ⟨_, (Nat.succ_pred_eq_of_pos k1).symm⟩
    obtain ⟨q, hq⟩ : ∃ p, (zaF L).countP (fun y => decide (y ≤ r.hi)) = p + 1 := ⟨_, (Nat.succ_pred_eq_of_pos k2).symm⟩
    obtain ⟨hpq, hqA, hcut⟩ := zhD hcc ⟨r0, r1, r2, r3⟩ (by omega) hp hq
    have ho1 := zeD T r.lo r0 r1 hbz
    have ho2 := zeD T r.hi r2 r3 hbz
    rw [zjF hrp, hp, show (((p + 1 : Nat) : Int) - 1) = (p : Int) by omega] at ho1
    rw [zjF hrp, hq, show (((q + 1 : Nat) : Int) - 1) = (q : Int) by omega] at ho2
    rw [hcut]
    have hA := zcx (zaF L)
    have hat := fun i => zmq hrp i
    generalize zaE (zaF L) = Al at *
    generalize zaF L = c at *
    obtain ⟨G, hG⟩ : ∃ G : Nat → Rg, G = fun k => ⟨max (Al.getD (p + k) ⟨0, 0⟩).lo r.lo, min (Al.getD (p + k) ⟨0, 0⟩).hi r.hi⟩ := ⟨_, rfl⟩
    rw [← hG]
    have FF := fI @a3 (fI @a6 (fI @a21 (fI @a22 @a23))); refine gxB ?_; clear FF
    refine zO (fun n B ρ => Ext σ ρ ∧ B 3 = .pp [.raw (.int .u32 r.lo), .raw (.int .u32 r.hi)] 0 ∧ B 6 = za1 T ∧ ∃ (j : Nat) (k : Int) (v : AV), B 12 = .raw (.int .i64 k) ∧ k = (p + j : Nat) ∧ j ≤ q + 1 - p ∧ n = q + 1 - p - j ∧ B 11 = v ∧ OwnL σ ρ 2 v (((List.range j).map G).map zp)) (q + 1 - p) ?_ ?_
    · exact ⟨hE, by simp [a3], by simp [a6], 0, p, .sl 0 [] true, by simp, by omega, by omega, by omega, by simp, .inl ⟨by simp, rfl⟩⟩
    clear hE a3 a6 a21 a22 a23
    rintro n B ρ ⟨hE, a3, a6, j, k, v, a12, hk, hj, rfl, a11, hO⟩ I1 hI1
    by_cases hjl : j < q + 1 - p
    · have hxa : Al[p + j]? = some Al[p + j] := List.getElem?_eq_getElem (by omega)
      have w1 : IntKind.i64.wrap (k + 1) = k + 1 := zo (by omega) (by omega)
      have hac := zjD T k hbz
      rw [hat, if_pos (by omega), show k.toNat = p + j by omega, hxa] at hac
      have hGj : G j = ⟨max Al[p + j].lo r.lo, min Al[p + j].hi r.hi⟩ := by
        rw [hG]; simp only [List.getD_eq_getElem?_getD, hxa, Option.getD_some]
      simp only [Option.getD_some, Option.isSome_some] at hac
      generalize Al[p + j] = a at hac hGj
      have m1 : (if a.lo < r.lo then r.lo else a.lo) = (G j).lo := by rw [hGj]; simp only []; rw [Int.max_def]; split <;> split <;> omega
      have m2 : (if r.hi < a.hi then r.hi else a.hi) = (G j).hi := by rw [hGj]; simp only []; rw [Int.min_def]; split <;> split <;> omega
      have hle : k ≤ (q : Int) := by omega
      have hrq : ∀ x y : Int, setPart (zp ⟨0, 0⟩) 0 [.raw (.int .u32 x), .raw (.int .u32 y)] = zp ⟨x, y⟩ := fun _ _ => rfl
      (try ((first | with_reducible refine zs ?_ | with_reducible refine zx ?_ | with_reducible refine zy ?_); simp [-cellOK, a3, a6, a11, a12, hle, rg_cells, m1, m2, hrf, hrq, w1, -zJ])); repeat' (first | ((first | refine zm ?_ | refine zl ?_ | refine dN (by decide +kernel) ?_ | refine dC (by decide +kernel) ?_ | refine uP (ho2) ?_ | refine .inl ⟨_, .inl (ho2), ?_⟩ | refine uP (hac) ?_ | refine .inl ⟨_, .inl (hac), ?_⟩ | (refine zb ?_ ?_ <;> (intro hg; simp only [hg])) | fail) <;> simp [-cellOK, a3, a6, a11, a12, hle, rg_cells, m1, m2, hrf, hrq, w1, -zJ]) | refine zf ?_ | refine zg ?_ | (refine zF ?_; simp only [zG]; try simp) | (refine zq (by simp) ?_; simp) | (refine zam (by simp) (by simp [noIds]) (by repeat (first | assumption | exact Ext.refl _ | refine zK ?_ | refine Ext.setF ?_ (by first | assumption | (simp [za, St.set, zc]; done) | exact zI (by assumption)))) ?_; simp [-cellOK, a3, a6, a11, a12, hle, rg_cells, m1, m2, hrf, hrq, w1, -zJ, nsE]) | (refine zd (fun hc => ?_) (fun hc => ?_) <;> try simp at hc) | fail)
      refine zaV zfM (σ0 := σ) (hO.ext exA) exA (ys := [zp ⟨(G j).lo, (G j).hi⟩]) (by simp [zt, za]) (.inr rfl) (by simp [rg_cells]) (by simp; omega) ?_
      intro v' τ' hO' hE' _ _
      have FF := fI @a3 (fI @a6 (fI @a12 @w1)); refine gxB ?_; clear FF
      refine hI1 (q + 1 - p - (j + 1)) _ _ (by omega) ⟨hE', by simp [a3], by simp [a6], j + 1, k + 1, v', by simp, by omega, by omega, rfl, by simp, ?_⟩
      rw [List.range_succ, List.map_append, List.map_append]
      exact hO'
    · have hje : j = q + 1 - p := by omega
      subst hje
      have hle : ¬ k ≤ (q : Int) := by omega
      have FF := fI @a3 (fI @a6 (fI @a11 (fI @a12 @hle))); refine gxC ?_; clear FF
      exact zkU (v := v) (u := .int .i64 0) (.inr rfl) (by simp) hO hE
end Go.Proofs.YtpboabpapgimoaaGreat.Av
namespace Go.Proofs.YtpboabpapgimoaaGreat.Av
open Go
set_option linter.unusedSimpArgs false
set_option linter.unusedVariables false
set_option maxRecDepth 100000
set_option maxHeartbeats 4000000
set_option pp.maxSteps 600
def zdw (f : Int) (p : Pt) : AV := .agg [.raw (.int .i64 f), .raw (.int .i64 p.dev), .raw (.int .i64 p.port)]
theorem zfC (f : Int) (p : Pt) : (zdw f p).cells = [.raw (.int .i64 f), .raw (.int .i64 p.dev), .raw (.int .i64 p.port)] := rfl
theorem zfD (q : Pt) : (zS q).cells = [.raw (.int .i64 q.dev), .raw (.int .i64 q.port)] := rfl
theorem zjG (x y : Int) : setPart (AV.agg [.raw (.int .i64 0), .raw (.int .i64 0)]) 0 [.raw (.int .i64 x), .raw (.int .i64 y)] = zS ⟨x, y⟩ := rfl
theorem zns (q : Pt) (x y : Int) : setPart (zS q) 0 [.raw (.int .i64 x), .raw (.int .i64 y)] = zS ⟨x, y⟩ := rfl
theorem zw (n : Nw) (f : Fl) : AV.agg [zh n.t.ports f.p, zC n.t.links f.l, zz n.rules f.r] = zR n f := rfl
theorem zrt (v w : Value) (off : Nat) : setPart (AV.raw v) off [AV.raw w] = .raw w := rfl
theorem zln (N : Nw) (f : Fl) (d a : Int) (ie : Id) {σ : St} (hie : σ.m ie ≠ none) :
    ACalls Tryz.prog 47 [zR N f, .raw (.int .i64 d), .raw (.int .u32 a), .rp ie 0 0] σ fun r τ => ∃ i : Id, r = .fn (.func 78) [] [.rp i 0 0, .pp (zR N f).cells 0, .pp [.raw (.int .u32 a)] 0, .pp [.rp ie 0 0] 0] ∧ i.sz = 1 ∧ σ.m i = none ∧ τ.m i = some (.buf [.raw (.int .i64 d)]) ∧ Ext σ τ := by
  have ne : ∀ slot sz, ie ≠ ⟨slot, σ.nx slot, sz⟩ := fun slot sz e => hie (by rw [e]; exact zc _ _ _)
  refine zaZ Tryz.func47 rfl (N := 10) rfl rfl (by simp) ?_
  repeat (refine zf ?_)
  refine zl ?_
  simp [-cellOK, ze]
  refine z8 ⟨4, σ.nx 4, 3⟩ ?_
  refine z8 ⟨6, σ.nx 6, 1⟩ ?_
  refine z8 ⟨7, σ.nx 7, 1⟩ ?_
  generalize hτ : St.del _ _ = τ
  generalize hA : (fun t => zr _ _ _) = A
  have a4 : A 4 = .pp (zR N f).cells 0 := by rw [← hA, ← hτ]; simp [zr, St.new, St.del, ze]
  have a5 : A 5 = .rp ⟨5, σ.nx 5, 1⟩ 0 0 := by rw [← hA, ← hτ]; simp [zr, St.new, St.del, ze]
  have a6 : A 6 = .pp [.raw (.int .u32 a)] 0 := by rw [← hA, ← hτ]; simp [zr, St.new, St.del, ze]
  have a7 : A 7 = .pp [.rp ie 0 0] 0 := by rw [← hA, ← hτ]; simp [zr, St.new, St.del, ze, ne]
  have hm : τ.m ⟨5, σ.nx 5, 1⟩ = some (.buf [.raw (.int .i64 d)]) := by rw [← hτ]; simp [St.new, St.del]
  have hE : Ext σ τ := by
    rw [← hτ]
    refine ⟨fun i o h => ?_, fun s => ?_⟩
    · have q1 : i ≠ ⟨4, σ.nx 4, 3⟩ := fun e => by rw [e, zc] at h; cases h
      have q2 : i ≠ ⟨5, σ.nx 5, 1⟩ := fun e => by rw [e, zc] at h; cases h
      have q3 : i ≠ ⟨6, σ.nx 6, 1⟩ := fun e => by rw [e, zc] at h; cases h
      have q4 : i ≠ ⟨7, σ.nx 7, 1⟩ := fun e => by rw [e, zc] at h; cases h
      simp [St.del, St.new, q1, q2, q3, q4, h]
    · simp only [St.del, St.new]
      repeat' split
      all_goals omega
  clear hτ hA
  have FF := fI @a4 (fI @a5 (fI @a6 @a7)); refine gxC ?_; clear FF
  exact zY (x := .fn (.func 78) [] [.rp ⟨5, σ.nx 5, 1⟩ 0 0, .pp (zR N f).cells 0, .pp [.raw (.int .u32 a)] 0, .pp [.rp ie 0 0] 0]) (.inr rfl) (by simp) ⟨_, rfl, rfl, zc _ _ _, hm, hE⟩
def zqu (N : Nw) (a : Int) (iat ie : Id) (Q : Int → List Int → St → Prop) (F : St → Prop) (d : Int) (p : List Int) (r : AV) (ρ : St) : Prop :=
  (r = .raw (.bool true) ∧ ρ.m iat = some (.buf [.raw (.int .i64 d)]) ∧ ρ.m ie = some (.buf [zdw 4 ⟨0, 0⟩]) ∧ ((zap N d a).1 ≠ 4 → ∀ π, Ext ρ π → F (π.set ie (.buf [zdw (zap N d a).1 (zap N d a).2]))) ∧
    ((zap N d a).1 = 4 → ∀ π, Ext ρ π → Q (zc5 N (zap N d a).2) (p ++ [d]) (π.set iat (.buf [.raw (.int .i64 (zc5 N (zap N d a).2))])))) ∨ (r = .raw (.bool false) ∧ F ρ)
theorem zn5 (N : Nw) (f : Fl) (a : Int) (iat ie : Id) (hN : NwOK N) (M : Nat) (Q : Int → List Int → St → Prop) (F : St → Prop) (b : Nat)
    (hlen : ∀ d p τ, Q d p τ → p.length ≤ M)
    (hQE : ∀ d p τ ρ, Q d p τ → Ext τ ρ → Q d p ρ)
    (hFE : ∀ τ ρ, F τ → Ext τ ρ → F ρ)
    (hat : ∀ d p τ, Q d p τ → τ.m iat = some (.buf [.raw (.int .i64 d)]))
    (hy : ∀ d p τ, Q d p τ → YK Tryz.prog b [.raw (.int .i64 d)] τ (zqu N a iat ie Q F d p))
    {σ : St} {d0 : Int} (hQ : Q d0 [] σ) :
    ACalls Tryz.prog 78 (.fn (.yield b) [] [] :: [.rp iat 0 0, .pp (zR N f).cells 0, .pp [.raw (.int .u32 a)] 0, .pp [.rp ie 0 0] 0]) σ fun _ τ => F τ := by
  obtain ⟨hr0, hp0, hl0, hu0, hi0⟩ := hN
  refine zaZ Tryz.func78 rfl (N := 36) rfl rfl (by simp) ?_
  have FF := @ze; refine gxB ?_; clear FF
  refine zO (fun n A τ => A 0 = .fn (.yield b) [] [] ∧ A 1 = .rp iat 0 0 ∧ A 2 = .pp (zR N f).cells 0 ∧ A 3 = .pp [.raw (.int .u32 a)] 0 ∧ A 4 = .pp [.rp ie 0 0] 0 ∧ ∃ d p, Q d p τ ∧ n = M + 1 - p.length) (M + 1) ?_ ?_
  · exact ⟨by simp, by simp, by simp [ze], by simp, by simp, d0, [], hQ, by simp⟩
  rintro n A τ ⟨a0, a1, a2, a3, a4, d, p, hq, rfl⟩ I1 hI1
  have ht := hat d p τ hq
  have hl := hlen d p τ hq
  (try ((first | with_reducible refine zs ?_ | with_reducible refine zx ?_ | with_reducible refine zy ?_); simp [-cellOK, a0, a1, a2, a3, a4, ht])); repeat' (first | ((first | refine zm ?_ | refine zl ?_ | refine dN (by decide +kernel) ?_ | refine dC (by decide +kernel) ?_ | (refine zb ?_ ?_ <;> (intro hg; simp only [hg])) | fail) <;> simp [-cellOK, a0, a1, a2, a3, a4, ht]) | refine zf ?_ | refine zg ?_ | (refine zF ?_; simp only [zG]; try simp) | (refine zq (by simp) ?_; simp) | (refine zam (by simp) (by simp [noIds]) (by repeat (first | assumption | exact Ext.refl _ | refine zK ?_ | refine Ext.setF ?_ (by first | assumption | (simp [za, St.set, zc]; done) | exact zI (by assumption)))) ?_; simp [-cellOK, a0, a1, a2, a3, a4, ht, nsE]) | (refine zd (fun hc => ?_) (fun hc => ?_) <;> try simp at hc) | fail)
  refine YK.mono ?_ (hy d p τ hq)
  rintro r ρ (⟨rfl, hρ, hρe, h1, h2⟩ | ⟨rfl, hF⟩)
  · have hs := zn0 N f d a hl0 hu0
    have hn := zjy N.t f (zap N d a).2 hl0
    have hnd : ((zbS N.t (zap N d a).2).getD ⟨0, 0⟩).dev = zc5 N (zap N d a).2 := rfl
    by_cases q : (zap N d a).1 = 4
    · have h2 := h2 q
      rw [q] at hs
      generalize (zap N d a).2 = P at *
      obtain ⟨R, hR⟩ : ∃ R, (zbS N.t P).getD ⟨0, 0⟩ = R := ⟨_, rfl⟩
      rw [hR] at hn hnd
      have htf : AV.agg [zh N.t.ports f.p, zC N.t.links f.l] = zbJ N.t f := rfl
      have FF := fI @a0 (fI @a1 (fI @a2 (fI @a3 (fI @a4 (fI @hρ (fI @ze (fI @zw (fI @zfD (fI @zjG (fI @zns (fI @zc3 (fI @zkd (fI @htf (fI @zrt @hnd)))))))))))))); refine gxB ?_; clear FF
      refine hI1 (M + 1 - (p ++ [d]).length) _ _ (by simp; omega) ⟨by simp [a0], by simp [a1], by simp [a2, ze], by simp [a3], by simp [a4], _, p ++ [d], h2 _ ?_, rfl⟩
      exact exA
    · have h1 := h1 q
      generalize (zap N d a).1 = s at *
      generalize (zap N d a).2 = P at *
      have hndf : ∀ z : Int, AV.agg [.raw (.int .i64 z), .raw (.int .i64 P.dev), .raw (.int .i64 P.port)] = zdw z P := fun _ => rfl
      have hnp : ∀ (z : Int) (q : Pt) (z' : Int) (q' : Pt), setPart (zdw z q) 0 [.raw (.int .i64 z'), .raw (.int .i64 q'.dev), .raw (.int .i64 q'.port)] = zdw z' q' := fun _ _ _ _ => rfl
      have FF := fI @a0 (fI @a1 (fI @a2 (fI @a3 (fI @a4 (fI @hρ (fI @hρe (fI @ze (fI @zw (fI @zfD (fI @zjG (fI @zns (fI @zkd (fI @zfC (fI @hndf (fI @hnp @q))))))))))))))); refine gxC ?_; clear FF
      exact zY (x := .tup []) (.inr rfl) (by simp) (h1 _ exA)
  · have FF := fI @a0 (fI @a1 (fI @a2 (fI @a3 @a4))); refine gxC ?_; clear FF
    exact zY (x := .tup []) (.inl rfl) (by simp) hF
end Go.Proofs.YtpboabpapgimoaaGreat.Av
namespace Go.Proofs.YtpboabpapgimoaaGreat.Av
open Go
set_option linter.unusedSimpArgs false
set_option linter.unusedVariables false
set_option maxRecDepth 100000
set_option maxHeartbeats 4000000
set_option pp.maxSteps 600
theorem OwnL.ne_sz {σ0 τ : St} {n : Nat} {v : AV} {es : List AV} (h : OwnL σ0 τ n v es) {i : Id} (hi : i.sz ≠ n) : ∀ k l, v ≠ .rs i k l := by
  rintro k l rfl
  rcases h with ⟨_, e⟩ | ⟨j, e, hj, _, _⟩
  · cases e
  · injection e with e; subst e; exact hi hj
theorem OwnL.set {σ0 τ : St} {n : Nat} {v : AV} {es : List AV} (h : OwnL σ0 τ n v es) {i : Id} {o : Ob} (hi : ∀ k l, v ≠ .rs i k l) : OwnL σ0 (τ.set i o) n v es := by
  rcases h with h | ⟨j, e, hj, hm, hn⟩
  · exact .inl h
  · exact .inr ⟨j, e, hj, by rw [zH (fun e2 => hi 0 es.length (by rw [e, e2]))]; exact hm, hn⟩
theorem OwnL.del {σ0 τ : St} {n : Nat} {v : AV} {es : List AV} (h : OwnL σ0 τ n v es) {i : Id} (hi : ∀ k l, v ≠ .rs i k l) : OwnL σ0 (τ.del i) n v es := by
  rcases h with h | ⟨j, e, hj, hm, hn⟩
  · exact .inl h
  · exact .inr ⟨j, e, hj, by rw [zU (fun e2 => hi 0 es.length (by rw [e, e2]))]; exact hm, hn⟩
theorem ze6 {P : Program} {A : zL} {σ σ0 : St} {fn : Func} {e : Exit} {n : Nat} {v : AV} {es : List AV} {u b c d : Value} (he : e = .normal ∨ e = .ret) (h : zaR P σ.m A fn.results = some (.tup [.agg [v, .raw b, .raw c, .raw d], .raw u])) (hO : OwnL σ0 σ n v es) (hE : Ext σ0 σ) :
    RetP P fn σ0 (.tup [.agg [.sl n es false, .raw b, .raw c, .raw d], .raw u]) e A σ := by
  refine zct he hE h ?_
  rcases hO with ⟨rfl, rfl⟩ | ⟨j, rfl, hj, hmj, hn⟩
  · exact weaker_tup (zgP zaT)
  · have e1 : z0 σ0.m σ.m (.tup [.agg [.rs j 0 es.length, .raw b, .raw c, .raw d], .raw u]) = .tup [.agg [.sl n es false, .raw b, .raw c, .raw d], .raw u] := by
      simp only [z0, List.map_cons, List.map_nil]
      rw [zbf hn hmj (by simp), hj]; simp [zr]
    rw [e1]; exact Weaker.refl _
structure TrS (σ ρ : St) (i6 i8 : Id) (v : AV) (p : List Int) : Prop where
  ext : Ext σ ρ
  m6 : ρ.m i6 = some (.buf [.agg [.sl 0 [] true, .raw (.int .i64 0), .raw (.int .i64 0), .raw (.int .i64 0)]])
  m8 : ρ.m i8 = some (.buf [.agg [v, .raw (.int .i64 0), .raw (.int .i64 0), .raw (.int .i64 0)]])
  own : OwnL σ ρ 1 v (p.map iAV)
theorem TrS.up {σ ρ π : St} {i6 i8 : Id} {v : AV} {p : List Int} (h : TrS σ ρ i6 i8 v p) (k : Ext ρ π) : TrS σ π i6 i8 v p := ⟨h.ext.trans k, k.m _ _ h.m6, k.m _ _ h.m8, h.own.ext k⟩
theorem TrS.put {σ ρ : St} {i6 i8 i : Id} {v : AV} {p : List Int} {o : Ob} (h : TrS σ ρ i6 i8 v p) (h6 : i6 ≠ i) (h8 : i8 ≠ i) (hv : ∀ k l, v ≠ .rs i k l) (h0 : σ.m i = none) : TrS σ (ρ.set i o) i6 i8 v p :=
  ⟨Ext.setF h.ext h0, by rw [zH h6]; exact h.m6, by rw [zH h8]; exact h.m8, h.own.set hv⟩
theorem TrS.del {σ ρ : St} {i6 i8 i : Id} {v : AV} {p : List Int} (h : TrS σ ρ i6 i8 v p) (h6 : i6 ≠ i) (h8 : i8 ≠ i) (hv : ∀ k l, v ≠ .rs i k l) (h0 : σ.m i = none) : TrS σ (ρ.del i) i6 i8 v p :=
  ⟨⟨fun j o hj => by rw [zU (fun e => by rw [e, h0] at hj; cases hj)]; exact h.ext.m j o hj, h.ext.nx⟩, by rw [zU h6]; exact h.m6, by rw [zU h8]; exact h.m8, h.own.del hv⟩
def zk (n : Nw) (d a : Int) : Tk × Int := if d < 0 ∨ n.t.ports.length ≤ d then (⟨[], 0, ⟨0, 0⟩⟩, 91) else (zcg n d a, 0)
theorem zcc (N : Nw) (f : Fl) (d a : Int) (hN : NwOK N) : PCalls Tryz.prog 22 [zR N f, .raw (.int .i64 d), .raw (.int .u32 a)] (.tup [zaX (zk N d a).1 false, .raw (.int .i64 (zk N d a).2)]) := by
  have hip : ∀ K t b, (zaX t b).ids K := fun K t b => by simp [zaX]
  refine zE Tryz.func22 rfl (N := 47) rfl rfl (by simp) (by simp [noIds, hip]) fun σ => ?_
  have hl := hN.links
  have f3 : σ.m ⟨3, σ.nx 3, 3⟩ = none := zc _ _ _
  have f6 : σ.m ⟨6, σ.nx 6, 4⟩ = none := zc _ _ _
  have f8 : σ.m ⟨8, σ.nx 8, 4⟩ = none := zc _ _ _
  have f9 : σ.m ⟨9, σ.nx 9, 3⟩ = none := zc _ _ _
  have hndf : ∀ x y z : Int, AV.agg [.raw (.int .i64 x), .raw (.int .i64 y), .raw (.int .i64 z)] = zdw x ⟨y, z⟩ := fun _ _ _ => rfl
  have hndp : ∀ (x y z : Int) (q : Int) (p : Pt), setPart (zdw q p) 0 [.raw (.int .i64 x), .raw (.int .i64 y), .raw (.int .i64 z)] = zdw x ⟨y, z⟩ := fun _ _ _ _ _ => rfl
  by_cases q : d < 0 ∨ N.t.ports.length ≤ d
  · unfold zk
    rw [if_pos q]
    have hw : Weaker (.tup [.agg [.sl 0 [] true, .raw (.int .i64 0), .raw (.int .i64 0), .raw (.int .i64 0)], .raw (.int .i64 91)]) (.tup [zaX ⟨[], 0, ⟨0, 0⟩⟩ false, .raw (.int .i64 91)]) := weaker_tup (zgP zaT)
    have fin : ∀ {A : zL} {τ : St}, Ext σ τ → zaR Tryz.prog τ.m A Tryz.f22.results = some (.tup [.agg [.sl 0 [] true, .raw (.int .i64 0), .raw (.int .i64 0), .raw (.int .i64 0)], .raw (.int .i64 91)]) → RetP Tryz.prog Tryz.f22 σ (.tup [zaX ⟨[], 0, ⟨0, 0⟩⟩ false, .raw (.int .i64 91)]) .ret A τ := fun hE h =>
      zct (.inr rfl) hE h (by simpa [z0, zr] using hw)
    by_cases q1 : d < 0
    · have FF := fI @ze @q1; refine gxC ?_; clear FF
      exact fin exA (by simp [zt, zD, za])
    · have q2 : (N.t.ports.length : Int) ≤ d := by omega
      have FF := fI @ze (fI @q1 (fI @q2 zh.eq_1)); refine gxC ?_; clear FF
      exact fin exA (by simp [zt, zD, za])
  have q1 : ¬ d < 0 := fun h => q (.inl h)
  have q2 : ¬ (N.t.ports.length : Int) ≤ d := fun h => q (.inr h)
  have hres : zk N d a = (zcg N d a, 0) := by unfold zk; rw [if_neg q]
  rw [hres]
  have hp : ∀ m, zaQ Tryz.prog m 22 (zh N.t.ports f.p) = some (.raw (.int .i64 N.t.ports.length)) := fun m => by simp [zh]
  (try ((first | with_reducible refine zs ?_ | with_reducible refine zx ?_ | with_reducible refine zy ?_); simp [-cellOK, ze, zw, q1, q2, -zaQ, hp, zfC, hndf, hndp, zt, zD, za])); repeat' (first | ((first | refine zm ?_ | refine zl ?_ | refine dN (by decide +kernel) ?_ | refine dC (by decide +kernel) ?_ | (refine zb ?_ ?_ <;> (intro hg; simp only [hg])) | fail) <;> simp [-cellOK, ze, zw, q1, q2, -zaQ, hp, zfC, hndf, hndp, zt, zD, za]) | refine zf ?_ | refine zg ?_ | (refine zF ?_; simp only [zG]; try simp) | (refine zq (by simp) ?_; simp) | (refine zam (by simp) (by simp [noIds]) (by repeat (first | assumption | exact Ext.refl _ | refine zK ?_ | refine Ext.setF ?_ (by first | assumption | (simp [za, St.set, zc]; done) | exact zI (by assumption)))) ?_; simp [-cellOK, ze, zw, q1, q2, -zaQ, hp, zfC, hndf, hndp, zt, zD, za, nsE]) | (refine zd (fun hc => ?_) (fun hc => ?_) <;> try simp at hc) | fail)
  generalize hσ1 : St.set _ _ _ = σ1
  have m6 : σ1.m ⟨6, σ.nx 6, 4⟩ = some (.buf [.agg [.sl 0 [] true, .raw (.int .i64 0), .raw (.int .i64 0), .raw (.int .i64 0)]]) := by rw [← hσ1]; simp [zt, zD, za]
  have m8 : σ1.m ⟨8, σ.nx 8, 4⟩ = some (.buf [.agg [.sl 0 [] true, .raw (.int .i64 0), .raw (.int .i64 0), .raw (.int .i64 0)]]) := by rw [← hσ1]; simp [zt, zD, za]
  have m9 : σ1.m ⟨9, σ.nx 9, 3⟩ = some (.buf [zdw 4 ⟨0, 0⟩]) := by rw [← hσ1]; simp [zt, zD, za]
  have hE1 : Ext σ σ1 := by rw [← hσ1]; exact exA
  clear hσ1
  refine (zln N f d a ⟨9, σ.nx 9, 3⟩ (by rw [m9]; simp)).mono ?_
  rintro _ τ ⟨iat, rfl, his, hi0, him, hEτ⟩
  have hEs : Ext σ τ := hE1.trans hEτ
  have hiat0 : σ.m iat = none := by
    cases h : σ.m iat with
    | none => rfl
    | some o => rw [hE1.m _ _ h] at hi0; cases hi0
  refine zpR ?_
  generalize hA : put 47 _ 27 _ = A
  have a6 : A 6 = .rp ⟨6, σ.nx 6, 4⟩ 0 0 := by rw [← hA]; simp
  have a8 : A 8 = .rp ⟨8, σ.nx 8, 4⟩ 0 0 := by rw [← hA]; simp
  have a9 : A 9 = .rp ⟨9, σ.nx 9, 3⟩ 0 0 := by rw [← hA]; simp
  have a27 : A 27 = .fn (.func 78) [] [.rp iat 0 0, .pp (zR N f).cells 0, .pp [.raw (.int .u32 a)] 0, .pp [.rp ⟨9, σ.nx 9, 3⟩ 0 0] 0] := by rw [← hA]; simp [ze]
  clear hA
  obtain ⟨i6, hi6⟩ : ∃ i, (⟨6, σ.nx 6, 4⟩ : Id) = i := ⟨_, rfl⟩
  obtain ⟨i8, hi8⟩ : ∃ i, (⟨8, σ.nx 8, 4⟩ : Id) = i := ⟨_, rfl⟩
  obtain ⟨ie, hie⟩ : ∃ i, (⟨9, σ.nx 9, 3⟩ : Id) = i := ⟨_, rfl⟩
  have s6 : i6.sz = 4 := by rw [← hi6]
  have s8 : i8.sz = 4 := by rw [← hi8]
  have se : ie.sz = 3 := by rw [← hie]
  have d68 : i6 ≠ i8 := by rw [← hi6, ← hi8]; simp
  rw [hi6] at m6 f6 a6
  rw [hi8] at m8 f8 a8
  rw [hie] at m9 f9 a9 a27
  have nsz : ∀ {i j : Id}, i.sz ≠ j.sz → i ≠ j := fun h e => h (by rw [e])
  refine zaC (fun B ρ => B 6 = .rp i6 0 0 ∧ B 8 = .rp i8 0 0 ∧ B 9 = .rp ie 0 0 ∧ ∃ v, TrS σ ρ i6 i8 v (zcg N d a).path ∧ ρ.m ie = some (.buf [zdw (zcg N d a).out (zcg N d a).last])) ?_ ?_
  · intro R1 hR1
    refine zfW a27 fun b lo L hlo hL => ?_
    have hLf : τ.m L = none := by rw [hL]; exact zc _ _ _
    have hL0 : σ.m L = none := by rw [hL]; exact zI hEs
    have sL : L.sz = 0 := by rw [hL]
    have hσL : (τ.new 0 0 (lo .ready none)).m L = some (lo .ready none) := by rw [hL]; simp
    obtain ⟨Q, hQ⟩ : ∃ Q : Int → List Int → St → Prop, ∀ d' p ρ, Q d' p ρ ↔ ∃ v, Way N a d d' p ∧ TrS σ ρ i6 i8 v p ∧ (∀ k l, v ≠ .rs iat k l) ∧ ρ.m L = some (lo .ready none) ∧ ρ.m ie = some (.buf [zdw 4 ⟨0, 0⟩]) ∧ ρ.m iat = some (.buf [.raw (.int .i64 d')]) := ⟨_, fun _ _ _ => Iff.rfl⟩
    obtain ⟨F, hF⟩ : ∃ F : St → Prop, ∀ ρ, F ρ ↔ ∃ st pd v, ρ.m L = some (lo st pd) ∧ st ≠ .busy ∧ (pd = none ∨ pd = some (.exit 0)) ∧ TrS σ ρ i6 i8 v (zcg N d a).path ∧ ρ.m ie = some (.buf [zdw (zcg N d a).out (zcg N d a).last]) := ⟨_, fun _ => Iff.rfl⟩
    refine (zn5 N f a iat ie hN (1 + 2 * N.t.links.length) Q F b ?_ ?_ ?_ ?_ ?_ (d0 := d) ?_).mono ?_
    · intro d' p ρ h; obtain ⟨v, hw, _⟩ := (hQ _ _ _).1 h; exact hw.len
    · intro d' p ρ π h k
      obtain ⟨v, hw, hS, hv, h1, h2, h3⟩ := (hQ _ _ _).1 h
      exact (hQ _ _ _).2 ⟨v, hw, hS.up k, hv, k.m _ _ h1, k.m _ _ h2, k.m _ _ h3⟩
    · intro ρ π h k
      obtain ⟨st, pd, v, h1, h2, h3, hS, h4⟩ := (hF _).1 h
      exact (hF _).2 ⟨st, pd, v, k.m _ _ h1, h2, h3, hS.up k, k.m _ _ h4⟩
    · intro d' p ρ h; obtain ⟨v, hw, hS, hv, h1, h2, h3⟩ := (hQ _ _ _).1 h; exact h3
    · intro d' p ρ h
      obtain ⟨v, hw, hS, hv, h1, h2, h3⟩ := (hQ _ _ _).1 h
      have hpl := hw.len
      have nL6 : i6 ≠ L := nsz (by rw [s6, sL]; decide)
      have nL8 : i8 ≠ L := nsz (by rw [s8, sL]; decide)
      have nLe : ie ≠ L := nsz (by rw [se, sL]; decide)
      have nLa : iat ≠ L := nsz (by rw [his, sL]; decide)
      have ne8 : ie ≠ i8 := nsz (by rw [se, s8]; decide)
      have na8 : iat ≠ i8 := nsz (by rw [his, s8]; decide)
      have nae : iat ≠ ie := nsz (by rw [his, se]; decide)
      refine YK.of h1 hlo (by simp) ?_
      show AWP _ _ _ _ _ (put 47 A 28 (.raw (.int .i64 d'))) ρ
      refine zpR ?_
      refine ⟨h1, ?_⟩
      have g1 : (ρ.set L (lo .busy none)).m L = some (lo .busy none) := by simp [h1]
      have g2 : (ρ.set L (lo .busy none)).m ie = some (.buf [zdw 4 ⟨0, 0⟩]) := by rw [zH nLe]; exact h2
      have g3 : (ρ.set L (lo .busy none)).m iat = some (.buf [.raw (.int .i64 d')]) := by rw [zH nLa]; exact h3
      have gS : TrS σ (ρ.set L (lo .busy none)) i6 i8 v p := hS.put nL6 nL8 (hS.own.ne_sz (by rw [sL]; decide)) hL0
      generalize ρ.set L (lo .busy none) = ρ2 at g1 g2 g3 gS ⊢
      clear h1 h2 h3 hS
      obtain ⟨hE2, q6, q8, hO⟩ := gS
      have hc : PCalls Tryz.prog 39 [.sl 1 (p.map iAV) false, .raw (.int .i64 d')] (.raw (.bool (p.any fun x => decide (d' = x)))) := zgj p false d' (by omega)
      obtain ⟨b0, hb0⟩ : ∃ b, (p.any fun x => decide (d' = x)) = b := ⟨_, rfl⟩
      have hb : (d' ∈ p) ↔ b0 = true := by rw [← hb0, List.any_eq_true]; constructor
                                           · exact fun h => ⟨d', h, by simp⟩
                                           · rintro ⟨x, hx, e⟩; simp only [decide_eq_true_eq] at e; exact e ▸ hx
      rw [hb0] at hc
      have FF := fI @a8 @q8; refine gxB ?_; clear FF
      refine hc.useP rfl hO.toP ?_
      (try ((first | with_reducible refine zs ?_ | with_reducible refine zx ?_ | with_reducible refine zy ?_); simp [-cellOK, a8, q8, -zJ])); repeat' (first | ((first | refine zm ?_ | refine zl ?_ | refine dN (by decide +kernel) ?_ | refine dC (by decide +kernel) ?_ | (refine zb ?_ ?_ <;> (intro hg; simp only [hg])) | fail) <;> simp [-cellOK, a8, q8, -zJ]) | refine zf ?_ | refine zg ?_ | (refine zF ?_; simp only [zG]; try simp) | (refine zq (by simp) ?_; simp) | (refine zam (by simp) (by simp [noIds]) (by repeat (first | assumption | exact Ext.refl _ | refine zK ?_ | refine Ext.setF ?_ (by first | assumption | (simp [za, St.set, zc]; done) | exact zI (by assumption)))) ?_; simp [-cellOK, a8, q8, -zJ, nsE]) | (refine zd (fun hc => ?_) (fun hc => ?_) <;> try simp at hc) | fail)
      refine zaV zlG (σ0 := σ) (hO.ext exA) exA (ys := [iAV d']) (by simp [zt, za, iAV]) (.inr rfl) (by simp [iAV]) (by simp; omega) ?_
      intro v' τ' hO' hE' hk hnx
      obtain ⟨k6, _⟩ := hk i6 _ (zaz _ _ q6) (hO.ne_sz (by rw [s6]; decide))
      obtain ⟨k8, _⟩ := hk i8 _ (zaz _ _ q8) (hO.ne_sz (by rw [s8]; decide))
      obtain ⟨ke, _⟩ := hk ie _ (zaz _ _ g2) (hO.ne_sz (by rw [se]; decide))
      obtain ⟨kL, _⟩ := hk L _ (zaz _ _ g1) (hO.ne_sz (by rw [sL]; decide))
      obtain ⟨ka, hva⟩ := hk iat _ (zaz _ _ g3) hv
      clear hk
      have hO2 : OwnL σ τ' 1 v' ((p ++ [d']).map iAV) := by rw [List.map_append]; exact hO'
      have hS3 : ∀ o, TrS σ ((τ'.set i8 (.buf [.agg [v', .raw (.int .i64 0), .raw (.int .i64 0), .raw (.int .i64 0)]])).set L o) i6 i8 v' (p ++ [d']) := fun o =>
        (show TrS σ (τ'.set i8 (.buf [.agg [v', .raw (.int .i64 0), .raw (.int .i64 0), .raw (.int .i64 0)]])) i6 i8 v' (p ++ [d']) from
          ⟨Ext.setF hE' f8, by rw [zH d68]; exact k6, by simp [k8], hO2.set (hO2.ne_sz (by rw [s8]; decide))⟩).put nL6 nL8 (hO2.ne_sz (by rw [sL]; decide)) hL0
      have e1 : ∀ o, ((τ'.set i8 (.buf [.agg [v', .raw (.int .i64 0), .raw (.int .i64 0), .raw (.int .i64 0)]])).set L o).m L = some o := fun o => by simp [zH nL8.symm, kL]
      have e2 : ∀ o, ((τ'.set i8 (.buf [.agg [v', .raw (.int .i64 0), .raw (.int .i64 0), .raw (.int .i64 0)]])).set L o).m ie = some (.buf [zdw 4 ⟨0, 0⟩]) := fun o => by rw [zH nLe, zH ne8]; exact ke
      have e3 : ∀ o, ((τ'.set i8 (.buf [.agg [v', .raw (.int .i64 0), .raw (.int .i64 0), .raw (.int .i64 0)]])).set L o).m iat = some (.buf [.raw (.int .i64 d')]) := fun o => by rw [zH nLa, zH na8]; exact ka
      have e0 : (τ'.set i8 (.buf [.agg [v', .raw (.int .i64 0), .raw (.int .i64 0), .raw (.int .i64 0)]])).m L = some (lo .busy none) := by rw [zH nL8.symm]; exact kL
      cases b0 with
      | true =>
        have hd := hb.2 rfl
        have hR := hw.again hd
        have FF := fI @a8 (fI @k8 (fI @hO'.cells @hO'.cellOK)); refine gxB ?_; clear FF
        refine ⟨e0, .inr ⟨rfl, (hF _).2 ⟨.done, some (.exit 0), v', e1 _, by simp, .inr rfl, ?_, ?_⟩⟩⟩
        · rw [hR]; exact hS3 _
        · rw [hR]; exact e2 _
      | false =>
        have hd : d' ∉ p := fun h => by have := hb.1 h; cases this
        have FF := fI @a8 (fI @k8 (fI @hO'.cells @hO'.cellOK)); refine gxB ?_; clear FF
        refine ⟨e0, .inl ⟨rfl, e3 _, e2 _, fun hs π hπ => ?_, fun hs π hπ => ?_⟩⟩
        · have hR := hw.fin hd hs
          have hS4 := (hS3 (lo .ready none)).up hπ
          refine (hF _).2 ⟨.ready, none, v', ?_, by simp, .inl rfl, ?_, ?_⟩
          · rw [zH nLe.symm]; exact hπ.m _ _ (e1 _)
          · rw [hR]
            exact hS4.put (nsz (by rw [s6, se]; decide)) ne8.symm (hO2.ne_sz (by rw [se]; decide)) f9
          · rw [hR]; simp [hπ.m _ _ (e2 (lo .ready none))]
        · have hw' := hw.on hd hs
          have hS4 := (hS3 (lo .ready none)).up hπ
          refine (hQ _ _ _).2 ⟨v', hw', hS4.put (nsz (by rw [s6, his]; decide)) na8.symm hva hiat0, hva, ?_, ?_, ?_⟩
          · rw [zH nLa.symm]; exact hπ.m _ _ (e1 _)
          · rw [zH nae.symm]; exact hπ.m _ _ (e2 _)
          · simp [hπ.m _ _ (e3 (lo .ready none))]
    · exact (hQ _ _ _).2 ⟨.sl 0 [] true, Way.start N a d, ⟨hEs.trans (Ext.new _ _ _ _), zaz _ _ (hEτ.m _ _ m6), zaz _ _ (hEτ.m _ _ m8), .inl ⟨rfl, rfl⟩⟩, by simp, hσL, zaz _ _ (hEτ.m _ _ m9), zaz _ _ him⟩
    · intro _ ρ h
      obtain ⟨st, pd, v, h1, h2, h3, hS, h4⟩ := (hF _).1 h
      have hfin : R1 A (ρ.del L) := hR1 _ _ ⟨a6, a8, a9, v, hS.del (nsz (by rw [s6, sL]; decide)) (nsz (by rw [s8, sL]; decide)) (hS.own.ne_sz (by rw [sL]; decide)) hL0, by rw [zU (nsz (by rw [se, sL]; decide))]; exact h4⟩
      refine ⟨st, pd, h1, h2, fun _ => hfin, fun c hc => ?_⟩
      rcases h3 with h3 | h3
      · rw [h3] at hc; cases hc
      · rw [h3] at hc
        simp only [Option.some.injEq] at hc
        subst hc
        refine zgC ?_
        simpa using hfin
  · rintro B ρ ⟨a6, a8, a9, v, ⟨hE, h6, h8, hO⟩, h9⟩
    generalize zcg N d a = R at h9 hO ⊢
    refine zf ?_
    refine z8 ie ?_
    have n6e : i6 ≠ ie := nsz (by rw [s6, se]; decide)
    have n8e : i8 ≠ ie := nsz (by rw [s8, se]; decide)
    obtain ⟨C, hC⟩ : ∃ C, (fun t => zr (ρ.del ie).m ρ.m (B t)) = C := ⟨_, rfl⟩
    rw [hC]
    have c6 : C 6 = .rp i6 0 0 := by rw [← hC]; show zr _ _ (B 6) = _; rw [a6]; exact zcI n6e
    have c8 : C 8 = .rp i8 0 0 := by rw [← hC]; show zr _ _ (B 8) = _; rw [a8]; exact zcI n8e
    have c9 : C 9 = .pp (zdw R.out R.last).cells 0 := by rw [← hC]; show zr _ _ (B 9) = _; rw [a9]; exact zcJ (by simp) h9 rfl
    have hE' : Ext σ (ρ.del ie) := ⟨fun j o hj => by rw [zU (fun e => by rw [e, f9] at hj; cases hj)]; exact hE.m j o hj, hE.nx⟩
    have h6' := (zU (σ := ρ) n6e).trans h6
    have h8' := (zU (σ := ρ) n8e).trans h8
    have hO' : OwnL σ (ρ.del ie) 1 v (R.path.map iAV) := hO.del (hO.ne_sz (by rw [se]; decide))
    generalize ρ.del ie = ρ' at hE' h6' h8' hO' ⊢
    clear hC a6 a8 a9 h6 h8 h9 hO hE
    have hv1 := hO'.cells
    have hv2 := hO'.cellOK
    have hvp : ∀ x y z : Value, setPart (AV.agg [v, .raw x, .raw y, .raw z]) 2 (zS R.last).cells = .agg [v, .raw x, .raw (.int .i64 R.last.dev), .raw (.int .i64 R.last.port)] := fun _ _ _ => rfl
    refine zoQ [0, 1, 2, 3, 4, 6] 5 7 (lsO [41, 43]) zc8 (by decide +kernel) ?_
    rw [List.map_cons, List.map_cons, List.map_cons, List.map_cons, List.map_cons, List.map_cons, List.map_nil]
    dsimp only [mkD, List.getElem?_cons_zero, List.getElem?_cons_succ, zc0, Option.map_none, Option.map_some]
    have FF := fI @c6 (fI @c8 (fI @c9 (fI @zfC (fI @zkd (fI @zfD @h8'))))); refine gxB ?_; clear FF
    have hvs : ∀ {i : Id}, i.sz = 4 → ∀ k l, v ≠ .rs i k l := fun h => hO'.ne_sz (by rw [h]; decide)
    have hd86 : i8 ≠ i6 := d68.symm
    have hv3 : ∀ w x y z : Value, [v, AV.raw x, AV.raw y, AV.raw z].length = 4 := fun _ _ _ _ => rfl
    have hcok : ∀ x y z : Int, zak [v, AV.raw (.int .i64 x), AV.raw (.int .i64 y), AV.raw (.int .i64 z)] = true := fun x y z => by simp [-cellOK, hv2]
    refine ⟨?_, ?_⟩
    · have FF := fI @c6 (fI @c8 (fI @h6' (fI @h8' (fI @hv1 (fI @hv2 (fI @zD (fI @d68 @hd86))))))); refine gxC ?_; clear FF
      refine ze6 (v := v) (.inr rfl) (by simp [zD, h6', h8', d68, hd86, c6, c8]) (((hO'.set (hvs s8)).set (hvs s8)).set (hvs s6)) ?_
      exact Ext.setF (Ext.setF (Ext.setF hE' f8) f8) f6
    · have FF := fI @c6 (fI @c8 (fI @h6' (fI @h8' (fI @hv1 (fI @hv2 (fI @zD (fI @d68 @hd86))))))); refine gxC ?_; clear FF
      refine ze6 (v := v) (.inr rfl) (by simp [zD, h6', h8', d68, hd86, c6, c8]) (((hO'.set (hvs s8)).set (hvs s8)).set (hvs s6)) ?_
      exact Ext.setF (Ext.setF (Ext.setF hE' f8) f8) f6
end Go.Proofs.YtpboabpapgimoaaGreat.Av
namespace Go.Proofs.YtpboabpapgimoaaGreat.Av
open Go
set_option linter.unusedSimpArgs false
set_option linter.unusedVariables false
set_option maxRecDepth 100000
set_option maxHeartbeats 4000000
set_option pp.maxSteps 600
@[simp] theorem zw3 (K : Id → Prop) (t : Tk) (b : Bool) : (zaX t b).ids K := by simp [zaX]
theorem zX (t : Tk) (f : Bool) : (zaX t f).cells = [zh t.path f, .raw (.int .i64 t.out), .raw (.int .i64 t.last.dev), .raw (.int .i64 t.last.port)] := rfl
theorem zau (t : Tk) (f : Bool) : AV.agg [zh t.path f, .raw (.int .i64 t.out), .raw (.int .i64 t.last.dev), .raw (.int .i64 t.last.port)] = zaX t f := rfl
theorem zb5 (t u : Tk) (f g : Bool) : setPart (zaX t f) 0 (zaX u g).cells = zaX u g := rfl
theorem zbM (u : Tk) (g : Bool) : setPart (AV.agg [.sl 0 [] true, .raw (.int .i64 0), .raw (.int .i64 0), .raw (.int .i64 0)]) 0 (zaX u g).cells = zaX u g := rfl
theorem zbz (u : Tk) (g : Bool) : setPart (AV.agg [.sl 0 [] true, .raw (.int .i64 0), .raw (.int .i64 0), .raw (.int .i64 0)]) 0 [zh u.path g, .raw (.int .i64 u.out), .raw (.int .i64 u.last.dev), .raw (.int .i64 u.last.port)] = zaX u g := rfl
def zpT (N : Nw) (a : Int) (t : Tk) : Bool := match t.path with | [] => false | d :: _ => decide ((zk N d a).2 = 0) && decide (t = (zk N d a).1)
theorem zk1 (n : Nw) (a : Int) : ∀ (f : Nat) (d : Int) (p : List Int), (zcC n a f d p).path.length ≤ p.length + f
  | 0, d, p => by simp [zcC]
  | f + 1, d, p => by
    have := zk1 n a f (zc5 n (zap n d a).2) (p ++ [d])
    simp only [zcC]
    split
    · simp
    · split
      · simp only [List.length_append, List.length_singleton] at this; omega
      · simp
theorem zbC (n : Nw) (d a : Int) : (zk n d a).1.path.length ≤ 2 + 2 * n.t.links.length := by
  unfold zk
  split
  · simp
  · have := zk1 n a (2 + 2 * n.t.links.length) d []
    simpa [zcg] using this
structure Qy where
  kind : Int
  a : Int
  b : Int
  w : Int
  r : Rg
  other : ByteArray
def qyAV (q : Qy) : AV := .agg [.raw (.int .i64 q.kind), .raw (.int .i64 q.a), .raw (.int .i64 q.b), .raw (.int .i64 q.w), .raw (.int .u32 q.r.lo), .raw (.int .u32 q.r.hi), .raw (.string q.other)]
def zkj (q : Qy) : Bool := decide (q.kind = 0) || (decide (q.kind = 3) || decide (q.kind = 4))
def zas (n : Nw) (d : Int) : Bool := decide (d < 0) || decide ((n.t.ports.length : Int) ≤ d)
def za4 (t : Tk) (d : Int) : Bool := decide (t.out = 3) && decide (t.last.dev = d)
def zbl (t : Tk) (d : Int) : Bool := t.path.any fun x => decide (d = x)
end Go.Proofs.YtpboabpapgimoaaGreat.Av
namespace Go.Proofs.YtpboabpapgimoaaGreat.Av
open Go
set_option linter.unusedSimpArgs false
set_option linter.unusedVariables false
set_option maxRecDepth 100000
set_option maxHeartbeats 4000000
set_option pp.maxSteps 600
def znt (q : Qy) : Bool := q.other.toList == (ByteArray.toList ⟨#[]⟩)
def zru (n : Nw) (q : Qy) : Bool :=
  !(decide (q.kind < 0) || (decide (5 < q.kind) || decide (q.r.hi < q.r.lo))) && (!([q.a, q.b, q.w].any (zas n)) && ((zkj q || (decide (q.a = 0) && decide (q.b = 0))) && ((decide (q.kind = 4) || decide (q.w = 0)) && (decide (q.kind = 5) || znt q))))
def ziO (n : Nw) (q : Qy) : List Int := if zkj q = true then [q.a] else (List.range n.t.ports.length).map fun i : Nat => (i : Int)
def znu (q : Qy) (t u : Tk) : Bool :=
  if q.kind = 0 then !za4 t q.b else if q.kind = 1 then decide (t.out = 4) else if q.kind = 2 then decide (t.out = 0) else if q.kind = 3 then zbl t q.b else if q.kind = 4 then za4 t q.b && !zbl t q.w else if q.kind = 5 then !decide (t = u) else false
end Go.Proofs.YtpboabpapgimoaaGreat.Av
namespace Go.Proofs.YtpboabpapgimoaaGreat.Av
open Go
set_option linter.unusedSimpArgs false
set_option linter.unusedVariables false
set_option maxRecDepth 100000
set_option maxHeartbeats 4000000
set_option pp.maxSteps 600
structure Vd where
  holds : Bool
  src : Int
  addr : Int
  tr : Tk
deriving DecidableEq
def vdAV (v : Vd) (f : Bool) : AV := .agg [.raw (.bool v.holds), .raw (.int .i64 v.src), .raw (.int .u32 v.addr), zh v.tr.path f, .raw (.int .i64 v.tr.out), .raw (.int .i64 v.tr.last.dev), .raw (.int .i64 v.tr.last.port)]
def zpU : Tk := ⟨[], 0, ⟨0, 0⟩⟩
def zrv (n m : Nw) (q : Qy) (d : Int) : List Rg → Option Vd
  | [] => none
  | r :: rs => if znu q (zk n d r.lo).1 (zk m d r.lo).1 = true then some ⟨false, d, r.lo, (zk n d r.lo).1⟩ else zrv n m q d rs
def zlH (n m : Nw) (q : Qy) (P : List Rg) : List Int → Option Vd
  | [] => none
  | d :: ds => match zrv n m q d P with
    | some v => some v
    | none => zlH n m q P ds
def runQ (n m : Nw) (q : Qy) : Vd × Int :=
  if zru n q = false ∨ (q.kind = 5 ∧ n.t ≠ m.t) then (⟨false, 0, 0, zpU⟩, 121) else
    match zlH n (if q.kind = 5 then m else n) q (zba [n, if q.kind = 5 then m else n] q.r) (ziO n q) with
    | some v => (v, 0)
    | none => (⟨true, 0, 0, zpU⟩, 0)
def zzy : AV := .agg [.raw (.bool false), .raw (.int .i64 0), .raw (.int .u32 0), .sl 0 [] true, .raw (.int .i64 0), .raw (.int .i64 0), .raw (.int .i64 0)]
theorem zfP (L : List Rg) : (zaF L).length ≤ 1 + 2 * L.length := by
  have hcc := zbt L
  have := zeq (m := 0 :: zcB L) (hcc.srt.imp fun h => by omega) fun x hx => by
    rw [List.mem_cons]; simp only [zcB, List.mem_flatMap]; exact (hcc.mem x).1 hx
  have := zfO L
  simp only [List.length_cons] at *
  omega
end Go.Proofs.YtpboabpapgimoaaGreat.Av
namespace Go.Proofs.YtpboabpapgimoaaGreat.Av
open Go
set_option linter.unusedSimpArgs false
set_option linter.unusedVariables false
set_option maxRecDepth 100000
set_option maxHeartbeats 2000000
set_option pp.maxSteps 300
def zax (n : Nw) : Bool := zgh n.t && (zeV n.rules && zgS n.t n.rules)
end Go.Proofs.YtpboabpapgimoaaGreat.Av
namespace Go.Proofs.YtpboabpapgimoaaGreat.Av
open Go
set_option linter.unusedSimpArgs false
set_option linter.unusedVariables false
set_option maxRecDepth 100000
set_option maxHeartbeats 2000000
set_option pp.maxSteps 600
def zcT (n : Nw) (d a : Int) : Int × Pt :=
  if zd9 n.rules d a = true then (2, ⟨0, 0⟩) else if n.rules.any (zbn d a false) = false then (0, ⟨0, 0⟩) else if (zbq (n.rules.filter (zbn d a false))).kind = 1 then (1, ⟨0, 0⟩)
  else if (zbv n.t.links ⟨d, (zbq (n.rules.filter (zbn d a false))).port⟩).isSome = true then (4, ⟨d, (zbq (n.rules.filter (zbn d a false))).port⟩) else (3, ⟨d, (zbq (n.rules.filter (zbn d a false))).port⟩)
theorem zlo (n : Nw) (f : Fl) (d a : Int) (hl : n.t.links.length < 2 ^ 60) (hl2 : n.rules.length < 2932031007403) :
    PCalls Tryz.prog 68 [zR n f, .raw (.int .i64 d), .raw (.int .u32 a)] (.tup [.raw (.int .i64 (zcT n d a).1), zS (zcT n d a).2]) := by
  have hd := zjA n.rules f.r d a hl2
  have hm := zkg n.rules f.r d a hl2
  have hn := fun p => zha n.t f p hl
  unfold zcT
  obtain ⟨b1, h1⟩ : ∃ b, zd9 n.rules d a = b := ⟨_, rfl⟩
  obtain ⟨b2, h2⟩ : ∃ b, n.rules.any (zbn d a false) = b := ⟨_, rfl⟩
  obtain ⟨r, hr⟩ : ∃ r, zbq (n.rules.filter (zbn d a false)) = r := ⟨_, rfl⟩
  rw [h1] at hd
  rw [h2, hr] at hm
  rw [h1, h2, hr]
  clear h1 h2 hr
  have hn := hn ⟨d, r.port⟩
  obtain ⟨b3, h3⟩ : ∃ b, (zbv n.t.links ⟨d, r.port⟩).isSome = b := ⟨_, rfl⟩
  obtain ⟨q, hq⟩ : ∃ q, (zbv n.t.links ⟨d, r.port⟩).getD ⟨0, 0⟩ = q := ⟨_, rfl⟩
  rw [h3, hq] at hn
  rw [h3]
  refine zE Tryz.func68 rfl (N := 50) rfl rfl (by simp) (by simp [noIds, zS]) fun σ => ?_
  have ho1 : cellOK (zh n.t.ports f.p) = true := rfl
  have ho2 : cellOK (zC n.t.links f.l) = true := rfl
  have ho3 : cellOK (zz n.rules f.r) = true := rfl
  simp only [cellOK] at ho1 ho2 ho3
  have hpf : ∀ x y : Int, AV.agg [.raw (.int .i64 x), .raw (.int .i64 y)] = zS ⟨x, y⟩ := fun _ _ => rfl
  have hpc : ∀ q : Pt, (zS q).cells = [.raw (.int .i64 q.dev), .raw (.int .i64 q.port)] := fun q => rfl
  have hps : ∀ (q : Pt) (x y : Int), setPart (zS q) 0 [.raw (.int .i64 x), .raw (.int .i64 y)] = zS ⟨x, y⟩ := fun _ _ _ => rfl
  have f7 : σ.m ⟨7, σ.nx 7, 2⟩ = none := zc _ _ _
  have hnf : AV.agg [zh n.t.ports f.p, zC n.t.links f.l] = zbJ n.t f := rfl
  have FF := fI @ze (fI @ho1 (fI @ho2 (fI @ho3 (fI @hpf (fI @hpc @hps))))); refine zB ?_; clear FF
  refine PCalls.use hd ?_
  cases b1 with
  | true =>
    have FF := fI @ze (fI @ho1 (fI @ho2 (fI @ho3 (fI @hpf (fI @hpc @hps))))); refine goC ?_; clear FF
    refine zu (.inr rfl) rfl (by repeat (first | exact Ext.refl _ | refine zK ?_ | refine Ext.setF ?_ (by simp [za, St.set, zc]))) ?_
    simp [St.set, St.new, hpc, hpf, hps]
  | false =>
    have FF := fI @ze (fI @ho1 (fI @ho2 (fI @ho3 (fI @hpf (fI @hpc @hps))))); refine zB ?_; clear FF
    refine PCalls.use hm ?_
    cases b2 with
    | false =>
      have FF := fI @ze (fI @ho1 (fI @ho2 (fI @ho3 (fI @hpf (fI @hpc (fI @hps (fI @zM (fI @zbj @zad)))))))); refine goC ?_; clear FF
      refine zu (.inr rfl) rfl (by repeat (first | exact Ext.refl _ | refine zK ?_ | refine Ext.setF ?_ (by simp [za, St.set, zc]))) ?_
      simp [St.set, St.new, hpc, hpf, hps]
    | true =>
      by_cases hk : r.kind = 1
      · have FF := fI @ze (fI @ho1 (fI @ho2 (fI @ho3 (fI @hpf (fI @hpc (fI @hps (fI @zM (fI @zbj (fI @zad @hk))))))))); refine goC ?_; clear FF
        refine zu (.inr rfl) rfl (by repeat (first | exact Ext.refl _ | refine zK ?_ | refine Ext.setF ?_ (by simp [za, St.set, zc]))) ?_
        simp [St.set, St.new, hpc, hpf, hps, hk]
      · have FF := fI @ze (fI @ho1 (fI @ho2 (fI @ho3 (fI @hpf (fI @hpc (fI @hps (fI @zM (fI @zbj (fI @zad (fI @hk (fI @hnf (fI @zt (fI @zD @za))))))))))))); refine zB ?_; clear FF
        refine PCalls.use hn ?_
        cases b3 with
        | true =>
          have FF := fI @ze (fI @ho1 (fI @ho2 (fI @ho3 (fI @hpf (fI @hpc (fI @hps (fI @zM (fI @zbj (fI @zad (fI @hk (fI @hnf (fI @zt (fI @zD @za))))))))))))); refine goC ?_; clear FF
          refine zu (.inr rfl) rfl (by repeat (first | exact Ext.refl _ | refine zK ?_ | refine Ext.setF ?_ (by simp [za, St.set, zc]))) ?_
          simp [St.set, St.new, hpc, hpf, hps, hk]
        | false =>
          have FF := fI @ze (fI @ho1 (fI @ho2 (fI @ho3 (fI @hpf (fI @hpc (fI @hps (fI @zM (fI @zbj (fI @zad (fI @hk (fI @hnf (fI @zt (fI @zD @za))))))))))))); refine goC ?_; clear FF
          refine zu (.inr rfl) rfl (by repeat (first | exact Ext.refl _ | refine zK ?_ | refine Ext.setF ?_ (by simp [za, St.set, zc]))) ?_
          simp [St.set, St.new, hpc, hpf, hps, hk]
end Go.Proofs.YtpboabpapgimoaaGreat.Av
namespace Go.Proofs.YtpboabpapgimoaaGreat.Av
open Go
set_option linter.unusedSimpArgs false
set_option linter.unusedVariables false
set_option maxRecDepth 100000
def zh6 (m : List (Pt × Pt)) (p : Pt) : Option Pt := (m.find? fun e => decide (p = e.1)).map (·.2)
theorem zk2 (m : List (Pt × Pt)) (k v p : Pt) : zh6 (upd m k v) p = if p = k then some v else zh6 m p := by
  unfold zh6 upd
  rw [List.find?_append, List.find?_filter]
  by_cases h : p = k
  · have : m.find? (fun a => decide (decide (k ≠ a.1) = true ∧ decide (p = a.1) = true)) = none := by
      rw [List.find?_eq_none]
      intro x hx
      subst h
      simp
    rw [this, if_pos h]
    simp [h]
  · have : (fun a : Pt × Pt => decide (decide (k ≠ a.1) = true ∧ decide (p = a.1) = true)) = fun a => decide (p = a.1) := by
      funext a
      by_cases h2 : p = a.1
      · have : k ≠ a.1 := fun q => h (h2.trans q.symm)
        simp [h2, this]
      · simp [h2]
    rw [this, if_neg h]
    simp [h]
def zbc : List Lk → List Pt
  | [] => []
  | l :: ls => l.a :: l.b :: zbc ls
theorem zhF {ls : List Lk} {p : Pt} (h : p ∉ zbc ls) : zbv ls p = none := by
  induction ls with
  | nil => rfl
  | cons l ls ih =>
    simp only [zbc, List.mem_cons, not_or] at h
    simp only [zbv]
    rw [if_neg (fun q => h.1 q.symm), if_neg (fun q => h.2.1 q.symm)]
    exact ih h.2.2
theorem zo2 (ls : List Lk) (m : List (Pt × Pt)) (p : Pt) (h : (zbc ls).Nodup) :
    zh6 (ls.foldl (fun m l => upd (upd m l.a l.b) l.b l.a) m) p = (zbv ls p).or (zh6 m p) := by
  induction ls generalizing m with
  | nil => simp [zbv]
  | cons l ls ih =>
    simp only [zbc, List.nodup_cons, List.mem_cons, not_or] at h
    obtain ⟨⟨hab, ha⟩, hb, hn⟩ := h
    rw [List.foldl_cons, ih _ hn, zk2, zk2]
    simp only [zbv]
    by_cases h1 : l.a = p
    · subst h1
      rw [zhF ha, if_neg hab]
      simp
    · by_cases h2 : l.b = p
      · subst h2
        rw [zhF hb]
        simp [h1]
      · have h1' : ¬ p = l.a := fun q => h1 q.symm
        have h2' : ¬ p = l.b := fun q => h2 q.symm
        simp [h1, h2, h1', h2']
theorem zmr (t : Tp) (p : Pt) (h : (zbc t.links).Nodup) : zbS t p = zbv t.links p := by
  have := zo2 t.links [] p h
  unfold zh6 at this
  unfold zbS zb8
  rw [this]
  simp
end Go.Proofs.YtpboabpapgimoaaGreat.Av
namespace Go.Proofs.YtpboabpapgimoaaGreat.Av
open Go
set_option linter.unusedSimpArgs false
set_option linter.unusedVariables false
set_option maxRecDepth 100000
theorem znv (m : List (Pt × Pt)) (k v : Pt) : (upd m k v).length ≤ m.length + 1 ∧ ((upd m k v).length = m.length + 1 ↔ k ∉ m.map (·.1)) := by
  have hle : (m.filter fun e => decide (k ≠ e.1)).length ≤ m.length := List.length_filter_le _ _
  have hl : (upd m k v).length = (m.filter fun e => decide (k ≠ e.1)).length + 1 := by simp [upd]
  refine ⟨by omega, ?_⟩
  rw [hl]
  constructor
  · intro h hk
    obtain ⟨e, he, rfl⟩ := List.mem_map.1 hk
    have := List.length_filter_lt_length_iff_exists (p := fun x : Pt × Pt => decide (e.1 ≠ x.1)) (l := m) |>.2 ⟨e, he, by simp⟩
    omega
  · intro h
    have : (m.filter fun e => decide (k ≠ e.1)) = m := by
      rw [List.filter_eq_self]
      intro x hx
      simp only [decide_eq_true_eq]
      intro q
      exact h (q ▸ List.mem_map.2 ⟨x, hx, rfl⟩)
    rw [this]
theorem zpV (m : List (Pt × Pt)) (k v x : Pt) : x ∈ (upd m k v).map (·.1) ↔ x = k ∨ x ∈ m.map (·.1) := by
  simp only [upd, List.map_append, List.mem_append, List.map_cons, List.map_nil, List.mem_singleton]
  constructor
  · rintro (h | h)
    · obtain ⟨e, he, rfl⟩ := List.mem_map.1 h
      exact .inr (List.mem_map.2 ⟨e, (List.mem_filter.1 he).1, rfl⟩)
    · exact .inl h
  · rintro (h | h)
    · exact .inr h
    · by_cases q : x = k
      · exact .inr q
      · obtain ⟨e, he, rfl⟩ := List.mem_map.1 h
        exact .inl (List.mem_map.2 ⟨e, List.mem_filter.2 ⟨he, by simpa using fun r => q r.symm⟩, rfl⟩)
theorem zpW (ls : List Lk) (m : List (Pt × Pt)) :
    (ls.foldl (fun m l => upd (upd m l.a l.b) l.b l.a) m).length ≤ m.length + 2 * ls.length ∧
    ((ls.foldl (fun m l => upd (upd m l.a l.b) l.b l.a) m).length = m.length + 2 * ls.length ↔ (zbc ls).Nodup ∧ ∀ p ∈ zbc ls, p ∉ m.map (·.1)) := by
  induction ls generalizing m with
  | nil => simp [zbc]
  | cons l ls ih =>
    obtain ⟨i1, i2⟩ := ih (upd (upd m l.a l.b) l.b l.a)
    obtain ⟨a1, a2⟩ := znv m l.a l.b
    obtain ⟨b1, b2⟩ := znv (upd m l.a l.b) l.b l.a
    rw [List.foldl_cons, List.length_cons]
    refine ⟨by omega, ?_⟩
    simp only [zpV, not_or] at b2 i2
    simp only [zbc, List.nodup_cons, List.mem_cons, not_or]
    constructor
    · intro h
      have h1 := a2.1 (by omega)
      have h2 := b2.1 (by omega)
      have h3 := i2.1 (by omega)
      refine ⟨⟨⟨fun q => h2.1 q.symm, fun q => (h3.2 _ q).2.1 rfl⟩, fun q => (h3.2 _ q).1 rfl, h3.1⟩, ?_⟩
      rintro p (rfl | rfl | hp)
      · exact h1
      · exact h2.2
      · exact (h3.2 _ hp).2.2
    · rintro ⟨⟨⟨hab, ha⟩, hb, hn⟩, hd⟩
      have e1 := a2.2 (hd _ (.inl rfl))
      have e2 := b2.2 ⟨fun q => hab q.symm, hd _ (.inr (.inl rfl))⟩
      have e3 := i2.2 ⟨hn, fun p hp => ⟨fun q => hb (q ▸ hp), fun q => ha (q ▸ hp), hd _ (.inr (.inr hp))⟩⟩
      omega
theorem zgZ (ls : List Lk) : (zb8 ls).length = 2 * ls.length ↔ (zbc ls).Nodup := by
  have := (zpW ls []).2
  simpa [zb8] using this
end Go.Proofs.YtpboabpapgimoaaGreat.Av
namespace Go.Proofs.YtpboabpapgimoaaGreat.Av
open Go
set_option linter.unusedSimpArgs false
set_option linter.unusedVariables false
set_option maxRecDepth 100000
theorem zit {l : List Ru} {last : Int} (h : zdR last l = true) : ∀ r ∈ l, zd7 r = true := by
  induction l generalizing last with
  | nil => simp
  | cons x l ih =>
    simp only [zdR, Bool.and_eq_true] at h
    intro r hr
    rcases List.mem_cons.1 hr with rfl | hr
    · exact h.1.1
    · exact ih h.2 r hr
theorem zfQ {l : List Ru} (h : zeV l = true) : ∀ r ∈ l, 0 ≤ r.kind ∧ r.kind ≤ 3 := by
  intro r hr
  have := zit (Bool.and_eq_true _ _ ▸ h : _ ∧ _).1 r hr
  simp only [zd7, Bool.and_eq_true, decide_eq_true_eq] at this
  exact this.1.1.1.2
theorem ze7 {l : List Ru} {p q : Ru → Bool} (h : ∀ r ∈ l, p r = q r) : l.any p = l.any q := by
  induction l with
  | nil => rfl
  | cons x l ih =>
    rw [List.any_cons, List.any_cons, h x (by simp), ih fun r hr => h r (List.mem_cons_of_mem _ hr)]
theorem zn6 {l : List Ru} (h : zeV l = true) (d a : Int) : l.filter (zbn d a true) = l.filter (zdg d a) := List.filter_congr fun r hr => zmk (zfQ h r hr) d a
theorem zn7 {l : List Ru} (h : zeV l = true) (d a : Int) : l.filter (zbn d a false) = l.filter (zdh d a) := List.filter_congr fun r hr => zml (zfQ h r hr) d a
theorem zqv {l : List Ru} (h : zeV l = true) (d a : Int) : l.any (zbn d a true) = l.any (zdg d a) := ze7 fun r hr => zmk (zfQ h r hr) d a
theorem zqw {l : List Ru} (h : zeV l = true) (d a : Int) : l.any (zbn d a false) = l.any (zdh d a) := ze7 fun r hr => zml (zfQ h r hr) d a
theorem zhG {t : Tp} (h : zgh t = true) : (zbc t.links).Nodup := by
  simp only [zgh, Bool.and_eq_true, decide_eq_true_eq] at h
  exact (zgZ _).1 h.2.2.2.2.2
theorem zqx {n : Nw} (h : zax n = true) (d a : Int) : zcT n d a = zap n d a := by
  simp only [zax, Bool.and_eq_true] at h
  obtain ⟨ht, hr, -⟩ := h
  unfold zcT zap zd9 zff zgk zea
  rw [zn6 hr, zn7 hr, zqv hr, zqw hr, zmr _ _ (zhG ht)]
end Go.Proofs.YtpboabpapgimoaaGreat.Av
namespace Go.Proofs.YtpboabpapgimoaaGreat.Av
set_option linter.unusedSimpArgs false
set_option linter.unusedVariables false
def zg0 (L : List Rg) (a b : Int) : Prop := ∀ x ∈ zaF L, (x ≤ a ↔ x ≤ b)
theorem zqy {L : List Rg} {a b : Int} (h : zg0 L a b) (ha : a < 4294967296) (hb : b < 4294967296) {r : Rg} (hr : r ∈ L) : (r.lo ≤ a ∧ a ≤ r.hi) ↔ (r.lo ≤ b ∧ b ≤ r.hi) := by
  have hm := (zbt L).mem
  have h1 : r.lo ∈ zaF L := (hm _).2 (.inr ⟨r, hr, by unfold zb1; split <;> simp⟩)
  have k1 := h _ h1
  by_cases q : r.hi < 4294967295
  · have h2 : r.hi + 1 ∈ zaF L := (hm _).2 (.inr ⟨r, hr, by unfold zb1; rw [if_pos q]; simp⟩)
    have k2 := h _ h2
    constructor <;> rintro ⟨x, y⟩ <;> constructor <;> omega
  · constructor <;> rintro ⟨x, y⟩ <;> constructor <;> omega
theorem zo3 {n : Nw} {L : List Rg} (hL : ∀ r ∈ n.rules, r.r ∈ L) {a b : Int} (h : zg0 L a b) (ha : a < 4294967296) (hb : b < 4294967296) (d : Int) : zap n d a = zap n d b := by
  have ht : ∀ r ∈ n.rules, zd5 r d a = zd5 r d b := fun r hr => by
    have := zqy h ha hb (hL r hr)
    unfold zd5
    rw [Bool.eq_iff_iff]
    simp only [Bool.and_eq_true, decide_eq_true_eq]
    rw [this]
  have h1 : ∀ r ∈ n.rules, zdg d a r = zdg d b r := fun r hr => by unfold zdg; rw [ht r hr]
  have h2 : ∀ r ∈ n.rules, zdh d a r = zdh d b r := fun r hr => by unfold zdh; rw [ht r hr]
  have e1 : n.rules.any (zdg d a) = n.rules.any (zdg d b) := ze7 h1
  have e2 : n.rules.any (zdh d a) = n.rules.any (zdh d b) := ze7 h2
  have e3 : n.rules.filter (zdg d a) = n.rules.filter (zdg d b) := List.filter_congr h1
  have e4 : n.rules.filter (zdh d a) = n.rules.filter (zdh d b) := List.filter_congr h2
  unfold zap zff zgk zea
  rw [e1, e2, e3, e4]
theorem zk3 {n : Nw} {a b : Int} (h : ∀ d, zap n d a = zap n d b) : ∀ (f : Nat) (d : Int) (p : List Int), zcC n a f d p = zcC n b f d p
  | 0, d, p => rfl
  | f + 1, d, p => by
    simp only [zcC, h d]
    split
    · rfl
    · split
      · exact zk3 h f _ _
      · rfl
theorem zn8 {n : Nw} {L : List Rg} (hL : ∀ r ∈ n.rules, r.r ∈ L) {a b : Int} (h : zg0 L a b) (ha : a < 4294967296) (hb : b < 4294967296) (d : Int) : zk n d a = zk n d b := by
  unfold zk zcg
  rw [zk3 fun d => zo3 hL h ha hb d]
theorem zo4 {c : List Int} (hc : c.Pairwise (· < ·)) {a : Rg} (ha : a ∈ zaE c) {y z : Int} (hy : a.lo ≤ y ∧ y ≤ a.hi) (hz : a.lo ≤ z ∧ z ≤ a.hi) : ∀ x ∈ c, (x ≤ y ↔ x ≤ z) := by
  intro x hx
  obtain ⟨i, hi⟩ := List.mem_iff_getElem?.1 ha
  rw [zdt] at hi
  cases hci : c[i]? with
  | none => rw [hci] at hi; cases hi
  | some ci =>
    rw [hci] at hi
    simp only [Option.map_some, Option.some.injEq] at hi
    subst hi
    simp only [] at hy hz
    obtain ⟨j, hj⟩ := List.mem_iff_getElem?.1 hx
    obtain ⟨hjl, hje⟩ := List.getElem?_eq_some_iff.1 hj
    obtain ⟨hil, hie⟩ := List.getElem?_eq_some_iff.1 hci
    by_cases hji : j ≤ i
    · have : x ≤ ci := by
        rcases Nat.lt_or_eq_of_le hji with h | h
        · have := List.pairwise_iff_getElem.1 hc j i hjl hil h
          omega
        · subst h; omega
      omega
    · have h1 : i + 1 < c.length := by omega
      have hn : c[i + 1]? = some c[i + 1] := List.getElem?_eq_getElem h1
      rw [hn] at hy hz
      simp only [] at hy hz
      have : c[i + 1] ≤ x := by
        rcases Nat.lt_or_eq_of_le (show i + 1 ≤ j by omega) with h | h
        · have := List.pairwise_iff_getElem.1 hc (i + 1) j h1 hjl h
          omega
        · subst h; omega
      omega
theorem zpX {c : List Int} {L : List Rg} (h : Cuts c L) {x : Int} (h0 : 0 ≤ x) (h1 : x < 4294967296) : ∃ a ∈ zaE c, a.lo ≤ x ∧ x ≤ a.hi := by
  obtain ⟨p, hp⟩ : ∃ p, c.countP (fun y => decide (y ≤ x)) = p + 1 := ⟨_, (Nat.succ_pred_eq_of_pos (h.pos h0)).symm⟩
  have hle : c.countP (fun y => decide (y ≤ x)) ≤ c.length := List.countP_le_length
  have hpl : p < c.length := by omega
  have hci : c[p]? = some c[p] := List.getElem?_eq_getElem hpl
  have hs := zgV h.srt x
  have k1 := (hs p _ hci).2 (by omega)
  have hg := zdt c p
  rw [hci] at hg
  refine ⟨_, List.mem_of_getElem? hg, k1, ?_⟩
  simp only []
  cases hn : c[p + 1]? with
  | none => simp only []; omega
  | some y =>
    have := hs _ _ hn
    simp only []
    have : ¬ y ≤ x := fun hyx => by have := this.1 hyx; omega
    omega
theorem zms {c : List Int} {r p : Rg} (h : p ∈ zee c r) : ∃ a ∈ zaE c, a.lo ≤ p.lo ∧ p.hi ≤ a.hi ∧ r.lo ≤ p.lo ∧ p.hi ≤ r.hi ∧ p.lo ≤ p.hi := by
  unfold zee at h
  obtain ⟨a, ha, hp⟩ := List.mem_filterMap.1 h
  unfold zbu at hp
  split at hp
  · rename_i hle
    simp only [Option.some.injEq] at hp
    subst hp
    refine ⟨a, ha, ?_⟩
    simp only []
    omega
  · cases hp
theorem zpY {c : List Int} {L : List Rg} (h : Cuts c L) {r : Rg} {x : Int} (h0 : 0 ≤ x) (h1 : x < 4294967296) (hx : r.lo ≤ x ∧ x ≤ r.hi) : ∃ p ∈ zee c r, p.lo ≤ x ∧ x ≤ p.hi := by
  obtain ⟨a, ha, k1, k2⟩ := zpX h h0 h1
  refine ⟨⟨max a.lo r.lo, min a.hi r.hi⟩, ?_, by simp only []; omega⟩
  unfold zee
  refine List.mem_filterMap.2 ⟨a, ha, ?_⟩
  unfold zbu
  rw [if_pos (by omega)]
theorem zk4 : ∀ {c : List Int}, c.Pairwise (· < ·) → (zaE c).Pairwise fun a b => a.hi < b.lo
  | [], _ => by simp [zaE]
  | [x], _ => by simp [zaE]
  | x :: y :: l, h => by
    obtain ⟨h1, h2⟩ := List.pairwise_cons.1 h
    simp only [zaE]
    refine List.pairwise_cons.2 ⟨fun b hb => ?_, zk4 h2⟩
    have : ∀ (l : List Int) (y : Int), (y :: l).Pairwise (· < ·) → ∀ b ∈ zaE (y :: l), y ≤ b.lo := by
      intro l
      induction l with
      | nil => intro y _ b hb; simp only [zaE, List.mem_singleton] at hb; subst hb; simp
      | cons z l ih =>
        intro y hy b hb
        obtain ⟨g1, g2⟩ := List.pairwise_cons.1 hy
        simp only [zaE, List.mem_cons] at hb
        rcases hb with rfl | hb
        · simp
        · have := ih z g2 b hb
          have := g1 z (by simp)
          omega
    have := this l y h2 b hb
    simp only []
    omega
theorem zo5 {c : List Int} (h : c.Pairwise (· < ·)) (r : Rg) : (zee c r).Pairwise fun a b => a.hi < b.lo := by
  unfold zee
  refine List.Pairwise.filterMap (R := fun a b : Rg => a.hi < b.lo) (zbu r) ?_ (zk4 h)
  intro a b hab p hp q hq
  unfold zbu at hp hq
  split at hp
  · split at hq
    · simp only [Option.some.injEq] at hp hq
      subst hp; subst hq
      simp only []
      omega
    · cases hq
  · cases hp
theorem zeF {n : Nw} (h : zax n = true) : (∀ r ∈ n.rules, zd7 r = true) ∧ n.rules.length ≤ 40 := by
  unfold zax at h
  simp only [Bool.and_eq_true] at h
  have h2 := h.2.1
  unfold zeV at h2
  simp only [Bool.and_eq_true, decide_eq_true_eq] at h2
  exact ⟨zit h2.1, h2.2⟩
theorem zqz {r : Ru} (h : zd7 r = true) : r.r.lo ≤ r.r.hi := by
  unfold zd7 at h
  simp only [Bool.and_eq_true, decide_eq_true_eq] at h
  exact h.2
theorem zo6 {l : List Nw} (h : ∀ n ∈ l, zax n = true) : ∀ r ∈ zal l, r.lo ≤ r.hi := by
  intro r hr
  unfold zal at hr
  obtain ⟨n, hn, hr⟩ := List.mem_flatMap.1 hr
  obtain ⟨x, hx, rfl⟩ := List.mem_map.1 hr
  exact zqz ((zeF (h n hn)).1 x hx)
theorem zn9 {l : List Nw} (h : ∀ n ∈ l, zax n = true) (hl : l.length ≤ 12) : zgY (zal l) = (zal l).reverse := by
  refine zmp (zo6 h) ?_
  have : ∀ l : List Nw, (∀ n ∈ l, zax n = true) → (zal l).length ≤ 40 * l.length := by
    intro l
    induction l with
    | nil => intro _; simp [zal]
    | cons n l ih =>
      intro h
      have h1 := (zeF (h n (by simp))).2
      have h2 := ih fun m hm => h m (by simp [hm])
      simp only [zal, List.flatMap_cons, List.length_append, List.length_map, List.length_cons] at h2 ⊢
      omega
  have := this l h
  omega
theorem zoa {l : List Nw} (h : ∀ n ∈ l, zax n = true) (hl : l.length ≤ 12) : zaF (zgY (zal l)) = zaF (zal l) := by
  rw [zn9 h hl]; exact zjE (List.reverse_perm _)
theorem zjH {l : List Nw} (h : ∀ n ∈ l, zax n = true) (hl : l.length ≤ 12) {r : Rg} (hr : r.lo ≤ r.hi) : zba l r = zee (zaF (zal l)) r := by
  unfold zba
  rw [if_neg (by omega), zoa h hl]
theorem zo7 {l : List Nw} {n : Nw} (hn : n ∈ l) : ∀ r ∈ n.rules, r.r ∈ zal l := fun r hr => List.mem_flatMap.2 ⟨n, hn, List.mem_map.2 ⟨r, hr, rfl⟩⟩
end Go.Proofs.YtpboabpapgimoaaGreat.Av
namespace Go.Proofs.YtpboabpapgimoaaGreat.Av
open Go
set_option linter.unusedSimpArgs false
set_option linter.unusedVariables false
set_option maxRecDepth 100000
set_option pp.maxSteps 600
def zcX : List Pt → Bool
  | [] => true
  | p :: l => !l.contains p && zcX l
theorem ze8 (l : List Pt) : zcX l = true ↔ l.Nodup := by
  induction l with
  | nil => simp [zcX]
  | cons p l ih => simp [zcX, ih]
def zcd (t : Tp) : Bool := !decide (t.ports.length < 1) && (!decide (8 < t.ports.length) && (!decide (16 < t.links.length) && (t.ports.all (fun n => decide (1 ≤ n) && decide (n ≤ 4)) && ((zbc t.links).all (hasB t) && zcX (zbc t.links)))))
theorem znc {t : Tp} (ls : List Lk) (hn : (zbc ls).Nodup) : ls.any (zke t) = !(zbc ls).all (hasB t) := by
  induction ls with
  | nil => rfl
  | cons l ls ih =>
    simp only [zbc, List.nodup_cons, List.mem_cons, not_or] at hn
    rw [List.any_cons, ih hn.2.2]
    simp only [zbc, List.all_cons, zke]
    have hab : decide (l.a = l.b) = false := by simpa using hn.1.1
    rw [hab]
    cases hasB t l.a <;> cases hasB t l.b <;> simp
theorem zo8 (t : Tp) : zgh t = zcd t := by
  have h1 : decide (t.ports.length = 0) = decide (t.ports.length < 1) := by
    rw [Bool.eq_iff_iff]; simp
  have h2 : (!ziL t) = t.ports.all (fun n => decide (1 ≤ n) && decide (n ≤ 4)) := by
    unfold ziL
    induction t.ports with
    | nil => rfl
    | cons n l ih =>
      rw [List.any_cons, List.all_cons, ← ih, Bool.not_or]
      congr 1
      rw [Bool.eq_iff_iff]; simp
  unfold zgh zcd
  rw [h1, h2]
  by_cases hn : (zbc t.links).Nodup
  · rw [decide_eq_true ((zgZ _).2 hn), (ze8 _).2 hn, znc _ hn, Bool.not_not]
  · have e1 : zcX (zbc t.links) = false := by
      cases h : zcX (zbc t.links) with
      | false => rfl
      | true => exact absurd ((ze8 _).1 h) hn
    rw [decide_eq_false (fun h => hn ((zgZ _).1 h)), e1]
    simp
end Go.Proofs.YtpboabpapgimoaaGreat.Av
namespace Go.Proofs.YtpboabpapgimoaaGreat.Av
open Go
set_option linter.unusedSimpArgs false
set_option linter.unusedVariables false
set_option maxRecDepth 100000
set_option maxHeartbeats 2000000
set_option pp.maxSteps 600
theorem zkk (t : Tp) (f : Fl) (hl : t.ports.length < 2 ^ 60) (hl2 : t.links.length < 2 ^ 42) : PCalls Tryz.prog 55 [zbJ t f] (.raw (.bool (zcd t))) := by
  refine zE Tryz.func55 rfl (N := 96) rfl rfl (by simp) (by simp [noIds]) fun σ => ?_
  repeat (refine zf ?_)
  refine zl ?_
  have ho1 : cellOK (zh t.ports f.p) = true := rfl
  have ho2 : cellOK (zC t.links f.l) = true := rfl
  simp only [cellOK] at ho1 ho2
  simp [za6, ho1, ho2]
  refine z8 ⟨1, σ.nx 1, 2⟩ ?_
  generalize hτ : St.del _ _ = τ
  generalize hA : (fun t => zr _ _ _) = A
  have a1 : A 1 = .pp [zh t.ports f.p, zC t.links f.l] 0 := by rw [← hA, ← hτ]; simp [zr, St.new, St.del, za6]
  have hE : Ext σ τ := by
    rw [← hτ]
    refine ⟨fun i o h => ?_, fun s => ?_⟩
    · rw [zU (fun e => by rw [e, zc] at h; cases h)]
      exact zaz _ _ h
    · exact St.new_le σ 1 2 (.buf [zbJ t f]) s
  clear hτ hA
  by_cases q1 : t.ports.length < 1
  · have q1' : (t.ports.length : Int) < 1 := by omega
    have FF := fI zh.eq_1 (fI zC.eq_1 (fI @a1 (fI @hE (fI @q1 @q1')))); refine zB ?_; clear FF
    all_goals simp [zcd, q1]
  have q1' : ¬ (t.ports.length : Int) < 1 := by omega
  by_cases q2 : 8 < t.ports.length
  · have q2' : (8 : Int) < (t.ports.length : Int) := by omega
    have FF := fI zh.eq_1 (fI zC.eq_1 (fI @a1 (fI @hE (fI @q1 (fI @q1' (fI @q2 @q2')))))); refine zB ?_; clear FF
    all_goals simp [zcd, q2]
  have q2' : ¬ (8 : Int) < (t.ports.length : Int) := by omega
  by_cases q3 : 16 < t.links.length
  · have q3' : (16 : Int) < (t.links.length : Int) := by omega
    have FF := fI zh.eq_1 (fI zC.eq_1 (fI @a1 (fI @hE (fI @q1 (fI @q1' (fI @q2 (fI @q2' (fI @q3 @q3')))))))); refine zB ?_; clear FF
    all_goals simp [zcd, q3]
  have q3' : ¬ (16 : Int) < (t.links.length : Int) := by omega
  have FF := fI zh.eq_1 (fI zC.eq_1 (fI @a1 (fI @hE (fI @q1 (fI @q1' (fI @q2 (fI @q2' (fI @q3 @q3')))))))); refine zB ?_; clear FF
  refine zO (fun n B ρ => Ext σ ρ ∧ B 1 = .pp [zh t.ports f.p, zC t.links f.l] 0 ∧ ∃ i : Nat, B 3 = .raw (.int .i64 i) ∧ i ≤ t.ports.length ∧ n = t.ports.length - i ∧ (t.ports.take i).all (fun n => decide (1 ≤ n) && decide (n ≤ 4)) = true) t.ports.length ?_ ?_
  · exact ⟨hE, by simp [a1], 0, by simp, by omega, by omega, by simp⟩
  clear hE a1
  rintro n B ρ ⟨hE, a1, i, a3, hi, rfl, hall⟩ I1 hI1
  by_cases hlt : i < t.ports.length
  · have hx : t.ports[i]? = some t.ports[i] := List.getElem?_eq_getElem hlt
    have w1 : IntKind.i64.wrap ((i : Int) + 1) = ((i + 1 : Nat) : Int) := by rw [zo (by omega) (by omega)]; omega
    by_cases p1 : t.ports[i] < 1
    · have hf : t.ports.all (fun n => decide (1 ≤ n) && decide (n ≤ 4)) = false := by
        rw [List.all_eq_false]
        exact ⟨_, List.getElem_mem hlt, by simp; omega⟩
      have FF := fI zh.eq_1 (fI zC.eq_1 (fI iAV.eq_1 (fI @a1 (fI @a3 (fI @hE (fI @hlt (fI @hx (fI @w1 @p1)))))))); refine zB ?_; clear FF
      all_goals simp [zcd, hf]
    · by_cases p2 : 4 < t.ports[i]
      · have hf : t.ports.all (fun n => decide (1 ≤ n) && decide (n ≤ 4)) = false := by
          rw [List.all_eq_false]
          exact ⟨_, List.getElem_mem hlt, by simp; omega⟩
        have FF := fI zh.eq_1 (fI zC.eq_1 (fI iAV.eq_1 (fI @a1 (fI @a3 (fI @hE (fI @hlt (fI @hx (fI @w1 (fI @p1 @p2))))))))); refine zB ?_; clear FF
        all_goals simp [zcd, hf]
      · have hp : (decide (1 ≤ t.ports[i]) && decide (t.ports[i] ≤ 4)) = true := by
          rw [Bool.and_eq_true, decide_eq_true_eq, decide_eq_true_eq]; exact ⟨by omega, by omega⟩
        have hall' : (t.ports.take (i + 1)).all (fun n => decide (1 ≤ n) && decide (n ≤ 4)) = true := by
          rw [List.take_add_one, hx, List.all_append, hall, Option.toList_some, List.all_cons, hp]; rfl
        (try ((first | with_reducible refine zs ?_ | with_reducible refine zx ?_ | with_reducible refine zy ?_); simp [zh, zC, iAV, a1, a3, hE, hlt, hx, w1, p1, p2])); repeat' (first | ((first | refine zm ?_ | refine zl ?_ | refine dN (by decide +kernel) ?_ | (refine zb ?_ ?_ <;> (intro hg; simp only [hg])) | fail) <;> simp [zh, zC, iAV, a1, a3, hE, hlt, hx, w1, p1, p2]) | refine zf ?_ | refine zg ?_ | (refine zF ?_; simp only [zG]; try simp) | ((first | refine zq (by simp) ?_ | refine zu (by simp) (by simp) (by simp (maxDischargeDepth := 30) [zh, zC, iAV, a1, a3, hE, hlt, hx, w1, p1, p2]) ?_ | fail); simp) | (refine zd (fun hc => ?_) (fun hc => ?_) <;> try simp at hc) | fail)
        exact hI1 (t.ports.length - (i + 1)) _ _ (by omega) ⟨hE, by simp [a1, zh, zC], i + 1, by simp, by omega, rfl, hall'⟩
  · have : i = t.ports.length := by omega
    subst this
    rw [List.take_length] at hall
    have FF := fI zh.eq_1 (fI zC.eq_1 (fI iAV.eq_1 (fI @a1 (fI @a3 @hE)))); refine zB ?_; clear FF
    refine zO (fun n B ρ => Ext σ ρ ∧ B 1 = .pp [zh t.ports f.p, zC t.links f.l] 0 ∧ ∃ (k : Nat) (v : AV), B 4 = v ∧ OwnL σ ρ 2 v ((zbc (t.links.take k)).map zS) ∧ B 5 = .raw (.int .i64 k) ∧ k ≤ t.links.length ∧ n = t.links.length - k) t.links.length ?_ ?_
    · exact ⟨hE, by simp [a1, zh, zC], 0, _, rfl, .inl ⟨by simp [zbc], by simp⟩, by simp, by omega, by omega⟩
    clear hE a1 a3 hI1 I1
    rintro n B ρ ⟨hE, a1, k, v, a4, hO, a5, hk, rfl⟩ I1 hI1
    have hfl : ∀ L : List Lk, (zbc L).length = 2 * L.length := by
      intro L; induction L with
      | nil => rfl
      | cons l L ih => simp only [zbc, List.length_cons, ih]; omega
    by_cases hlt : k < t.links.length
    · have hx : t.links[k]? = some t.links[k] := List.getElem?_eq_getElem hlt
      have w1 : IntKind.i64.wrap ((k : Int) + 1) = ((k + 1 : Nat) : Int) := by rw [zo (by omega) (by omega)]; omega
      have hfp : zbc (t.links.take (k + 1)) = zbc (t.links.take k) ++ [t.links[k].a, t.links[k].b] := by
        rw [List.take_add_one, hx]
        generalize t.links.take k = L
        induction L with
        | nil => rfl
        | cons l L ih => simp only [List.cons_append, zbc, ih]
      have fa : AV.agg [.raw (.int .i64 t.links[k].a.dev), .raw (.int .i64 t.links[k].a.port)] = zS t.links[k].a := rfl
      have fb : AV.agg [.raw (.int .i64 t.links[k].b.dev), .raw (.int .i64 t.links[k].b.port)] = zS t.links[k].b := rfl
      have hpc : ∀ q : Pt, (zS q).cells = [.raw (.int .i64 q.dev), .raw (.int .i64 q.port)] := fun q => rfl
      (try ((first | with_reducible refine zs ?_ | with_reducible refine zx ?_ | with_reducible refine zy ?_); simp [zC, zh, a1, a4, a5, hlt, hx, zbp, fa, fb, hpc, w1, -zJ])); repeat' (first | ((first | refine zm ?_ | refine zl ?_ | refine dN (by decide +kernel) ?_ | (refine zb ?_ ?_ <;> (intro hg; simp only [hg])) | fail) <;> simp [zC, zh, a1, a4, a5, hlt, hx, zbp, fa, fb, hpc, w1, -zJ]) | refine zf ?_ | refine zg ?_ | (refine zF ?_; simp only [zG]; try simp) | ((first | refine zq (by simp) ?_ | refine zu (by simp) (by simp) (by simp (maxDischargeDepth := 30) [zC, zh, a1, a4, a5, hlt, hx, zbp, fa, fb, hpc, w1, -zJ]) ?_ | fail); simp) | (refine zd (fun hc => ?_) (fun hc => ?_) <;> try simp at hc) | fail)
      refine zaV zrl (hO.ext (Ext.new _ _ _ _)) (hE.trans (Ext.new _ _ _ _)) (ys := [zS t.links[k].a, zS t.links[k].b]) (by simp) (.inr rfl) (by simp [hpc]) (by simp [hfl, Nat.min_eq_left hk]; omega) ?_
      intro v' τ' hO' hE' _ _
      have FF := fI zC.eq_1 (fI zh.eq_1 (fI @a1 (fI @a4 (fI @a5 @w1)))); refine zB ?_; clear FF
      exact hI1 (t.links.length - (k + 1)) _ _ (by omega) ⟨hE', by simp [a1, zh, zC], k + 1, v', by simp, by rw [hfp]; simpa using hO', by simp, by omega, rfl⟩
    · have : k = t.links.length := by omega
      subst this
      rw [List.take_length] at hO
      have hFl := hfl t.links
      obtain ⟨F, hF⟩ : ∃ F, zbc t.links = F := ⟨_, rfl⟩
      have hres : zcd t = (F.all (hasB t) && zcX F) := by
        unfold zcd
        rw [hF, hall, decide_eq_false q1, decide_eq_false q2, decide_eq_false q3]; rfl
      rw [hres]
      rw [hF] at hO hFl
      clear hres hI1 hall hfl
      have hpc : ∀ q : Pt, (zS q).cells = [.raw (.int .i64 q.dev), .raw (.int .i64 q.port)] := fun q => rfl
      have hpf : ∀ q : Pt, AV.agg [.raw (.int .i64 q.dev), .raw (.int .i64 q.port)] = zS q := fun q => rfl
      have htf : AV.agg [AV.sl 1 (t.ports.map iAV) f.p, AV.sl 4 (t.links.map ziI) f.l] = zbJ t f := rfl
      have hbin : ∀ x y : Pt, zaU Tryz.prog .eql 52 (zS x) (zS y) = some (.raw (.bool (decide (x = y)))) := fun x y => by
        have e1 : zaU Tryz.prog .eql 52 (zS x) (zS y) = if Tryz.prog.eqGuardType Tryz.prog.depth 52 = false then (zaS Tryz.prog 4 52 (zS x) (zS y)).bind fun b => (zcp .eql b).map .raw else none := rfl
        have := zjx x y
        rw [e1, if_pos znT]
        rw [show zaS Tryz.prog 4 52 (zS x) (zS y) = some (decide (x = y)) from this]
        rfl
      have FF := fI zC.eq_1 (fI zh.eq_1 (fI @a1 (fI @a4 @a5))); refine zB ?_; clear FF
      refine zgN 4 (by simpa [a4] using hO) hE ?_
      intro A' τ' hE' e4 hf _ _ _ _
      have b1 : A' 1 = .pp [zh t.ports f.p, zC t.links f.l] 0 := by rw [hf 1 (by simp) (by simp [a1])]; simp [a1]
      have b6 : A' 6 = .raw (.int .i64 0) := by rw [hf 6 (by simp) (by simp)]; simp
      clear hf hE a1 a4 a5 hO
      refine zO (fun n B ρ => Ext σ ρ ∧ B 1 = .pp [zh t.ports f.p, zC t.links f.l] 0 ∧ B 4 = .sl 2 (F.map zS) false ∧ ∃ i : Nat, B 6 = .raw (.int .i64 i) ∧ i ≤ F.length ∧ n = F.length - i ∧ (F.take i).all (hasB t) = true ∧ (F.take i).Nodup) F.length ?_ ?_
      · exact ⟨hE', b1, e4, 0, by simp [b6], by omega, by omega, by simp, by simp⟩
      clear hE' b1 e4 b6
      rintro n B ρ ⟨hE, a1, a4, i, a6, hi, rfl, hal, hnd⟩ I1 hI1
      by_cases hlt : i < F.length
      · have hx : F[i]? = some F[i] := List.getElem?_eq_getElem hlt
        have w1 : IntKind.i64.wrap ((i : Int) + 1) = ((i + 1 : Nat) : Int) := by rw [zo (by omega) (by omega)]; omega
        have hh := refHas_calls t f F[i] hl
        by_cases hb : hasB t F[i] = true
        · rw [hb] at hh
          (try ((first | with_reducible refine zs ?_ | with_reducible refine zx ?_ | with_reducible refine zy ?_); simp [-cellOK, zC, zh, a1, a4, a6, hlt, hx, hpc, htf])); repeat' (first | ((first | refine zm ?_ | refine zl ?_ | refine dN (by decide +kernel) ?_ | refine dC (by decide +kernel) ?_ | refine uP (hh) ?_ | refine .inl ⟨_, .inl (hh), ?_⟩ | (refine zb ?_ ?_ <;> (intro hg; simp only [hg])) | fail) <;> simp [-cellOK, zC, zh, a1, a4, a6, hlt, hx, hpc, htf]) | refine zf ?_ | refine zg ?_ | (refine zF ?_; simp only [zG]; try simp) | (refine zq (by simp) ?_; simp) | (refine zam (by simp) (by simp [noIds]) (by repeat (first | assumption | exact Ext.refl _ | refine zK ?_ | refine Ext.setF ?_ (by first | assumption | (simp [za, St.set, zc]; done) | exact zI (by assumption)))) ?_; simp [-cellOK, zC, zh, a1, a4, a6, hlt, hx, hpc, htf, nsE]) | (refine zd (fun hc => ?_) (fun hc => ?_) <;> try simp at hc) | fail)
          refine zO (fun n B ρ => Ext σ ρ ∧ B 1 = .pp [zh t.ports f.p, zC t.links f.l] 0 ∧ B 4 = .sl 2 (F.map zS) false ∧ B 6 = .raw (.int .i64 i) ∧ ∃ k : Nat, B 8 = .raw (.int .i64 k) ∧ k ≤ i ∧ n = i - k ∧ ∀ j, (hj : j < k) → (hji : j < F.length) → F[j] ≠ F[i]) i ?_ ?_
          · exact ⟨by simp [hE], by simp [a1, zC, zh], by simp [a4], by simp [a6], 0, by simp, by omega, by omega, fun j hj => by omega⟩
          rintro n C τ ⟨hE, a1, a4, a6, k, a8, hk, rfl, hne⟩ J1 hJ1
          by_cases hki : k < i
          · have hkl : k < F.length := by omega
            have hx2 : F[k]? = some F[k] := List.getElem?_eq_getElem hkl
            have w2 : IntKind.i64.wrap ((k : Int) + 1) = ((k + 1 : Nat) : Int) := by rw [zo (by omega) (by omega)]; omega
            by_cases he : F[k] = F[i]
            · have hnn : zcX F = false := by
                cases h : zcX F with
                | false => rfl
                | true =>
                  have := (ze8 _).1 h
                  exact absurd he (List.pairwise_iff_getElem.1 this k i hkl hlt hki)
              have hd : decide (F[k] = F[i]) = true := decide_eq_true he
              rw [show (F.all (hasB t) && zcX F) = false by rw [hnn, Bool.and_false]]
              (try ((first | with_reducible refine zs ?_ | with_reducible refine zx ?_ | with_reducible refine zy ?_); simp [-cellOK, zC, zh, hE, a1, a4, a6, a8, hlt, hx, hkl, hki, hx2, w2, hpc, hpf, -zaU, hbin, zaL, hd])); repeat' (first | ((first | refine zm ?_ | refine zl ?_ | refine dN (by decide +kernel) ?_ | refine dC (by decide +kernel) ?_ | refine uP (hh) ?_ | refine .inl ⟨_, .inl (hh), ?_⟩ | (refine zb ?_ ?_ <;> (intro hg; simp only [hg])) | fail) <;> simp [-cellOK, zC, zh, hE, a1, a4, a6, a8, hlt, hx, hkl, hki, hx2, w2, hpc, hpf, -zaU, hbin, zaL, hd]) | refine zf ?_ | refine zg ?_ | (refine zF ?_; simp only [zG]; try simp) | (refine zq (by simp) ?_; simp) | (refine zam (by simp) (by simp [noIds]) (by repeat (first | assumption | exact Ext.refl _ | refine zK ?_ | refine Ext.setF ?_ (by first | assumption | (simp [za, St.set, zc]; done) | exact zI (by assumption)))) ?_; simp [-cellOK, zC, zh, hE, a1, a4, a6, a8, hlt, hx, hkl, hki, hx2, w2, hpc, hpf, -zaU, hbin, zaL, hd, nsE]) | (refine zd (fun hc => ?_) (fun hc => ?_) <;> try simp at hc) | fail)
            · have hd : decide (F[k] = F[i]) = false := decide_eq_false he
              (try ((first | with_reducible refine zs ?_ | with_reducible refine zx ?_ | with_reducible refine zy ?_); simp [-cellOK, zC, zh, a1, a4, a6, a8, hlt, hx, hkl, hki, hx2, w2, hpc, hpf, -zaU, hbin, zaL, hd])); repeat' (first | ((first | refine zm ?_ | refine zl ?_ | refine dN (by decide +kernel) ?_ | refine dC (by decide +kernel) ?_ | refine uP (hh) ?_ | refine .inl ⟨_, .inl (hh), ?_⟩ | (refine zb ?_ ?_ <;> (intro hg; simp only [hg])) | fail) <;> simp [-cellOK, zC, zh, a1, a4, a6, a8, hlt, hx, hkl, hki, hx2, w2, hpc, hpf, -zaU, hbin, zaL, hd]) | refine zf ?_ | refine zg ?_ | (refine zF ?_; simp only [zG]; try simp) | (refine zq (by simp) ?_; simp) | (refine zam (by simp) (by simp [noIds]) (by repeat (first | assumption | exact Ext.refl _ | refine zK ?_ | refine Ext.setF ?_ (by first | assumption | (simp [za, St.set, zc]; done) | exact zI (by assumption)))) ?_; simp [-cellOK, zC, zh, a1, a4, a6, a8, hlt, hx, hkl, hki, hx2, w2, hpc, hpf, -zaU, hbin, zaL, hd, nsE]) | (refine zd (fun hc => ?_) (fun hc => ?_) <;> try simp at hc) | fail)
              exact hJ1 (i - (k + 1)) _ _ (by omega) ⟨hE, by simp [a1, zC, zh], by simp [a4], by simp [a6], k + 1, by simp, by omega, rfl, fun j hj hji => by
                by_cases e : j = k
                · subst e; exact he
                · exact hne j (by omega) hji⟩
          · have : k = i := by omega
            subst this
            have FF := fI zC.eq_1 (fI zh.eq_1 (fI @a1 (fI @a4 (fI @a6 (fI @a8 @w1))))); refine gxB ?_; clear FF
            refine hI1 (F.length - (k + 1)) _ _ (by omega) ⟨hE, by simp [a1, zC, zh], by simp [a4], k + 1, by simp, by omega, rfl, ?_, ?_⟩
            · rw [List.take_add_one, hx, List.all_append, hal, Option.toList_some, List.all_cons, hb]; rfl
            · rw [List.take_add_one, hx, List.nodup_append]
              refine ⟨hnd, by simp, fun a ha b hbm e => ?_⟩
              simp only [Option.toList_some, List.mem_singleton] at hbm
              subst hbm; subst e
              obtain ⟨j, hj, e2⟩ := List.mem_iff_getElem.1 ha
              simp only [List.length_take] at hj
              rw [List.getElem_take] at e2
              exact hne j (by omega) (by omega) e2
        · have hb' : hasB t F[i] = false := by simpa using hb
          rw [hb'] at hh
          have hF0 : F.all (hasB t) = false := by
            rw [List.all_eq_false]
            exact ⟨_, List.getElem_mem hlt, by simp [hb']⟩
          rw [show (F.all (hasB t) && zcX F) = false by rw [hF0, Bool.false_and]]
          have FF := fI zC.eq_1 (fI zh.eq_1 (fI @hE (fI @a1 (fI @a4 (fI @a6 (fI @hlt (fI @hx (fI @hpc (fI @hpf @htf))))))))); exact gxA
      · have : i = F.length := by omega
        subst this
        rw [List.take_length] at hal hnd
        have hnn := (ze8 F).2 hnd
        rw [hal, hnn]
        have FF := fI zC.eq_1 (fI zh.eq_1 (fI @hE (fI @a1 (fI @a4 @a6)))); exact gxA
end Go.Proofs.YtpboabpapgimoaaGreat.Av
namespace Go.Proofs.YtpboabpapgimoaaGreat.Av
open Go
set_option linter.unusedSimpArgs false
set_option linter.unusedVariables false
set_option maxRecDepth 100000
set_option maxHeartbeats 2000000
set_option pp.maxSteps 300
def zhH (l : List Ru) (i : Nat) : Int := match i with | 0 => 0 | k + 1 => match l[k]? with | some r => r.id | none => 0
theorem zmt (l : List Ru) (f : Bool) (hl : l.length < 2932031007403) (hid : ∀ r ∈ l, -9223372036854775808 ≤ r.id ∧ r.id < 9223372036854775808) : PCalls Tryz.prog 56 [zz l f] (.raw (.bool (zeV l))) := by
  refine zE Tryz.func56 rfl (N := 39) rfl rfl (by simp) (by simp [noIds]) fun σ => ?_
  have FF := zz.eq_1; refine zB ?_; clear FF
  refine zO (fun n A τ => τ = σ ∧ A 0 = zz l f ∧ ∃ i : Nat, A 3 = .raw (.int .i64 i) ∧ i ≤ l.length ∧ n = l.length - i ∧ zdR 0 l = zdR (zhH l i) (l.drop i)) l.length ?_ ?_
  · exact ⟨rfl, by simp [zz], 0, by simp, by omega, by omega, by simp [zhH]⟩
  rintro n A τ ⟨rfl, a0, i, a3, hi, rfl, hall⟩ I1 hI1
  by_cases hlt : i < l.length
  · have hx : l[i]? = some l[i] := List.getElem?_eq_getElem hlt
    have w1 : IntKind.i64.wrap ((i : Int) + 1) = ((i + 1 : Nat) : Int) := by rw [zo (by omega) (by omega)]; omega
    have hd : l.drop i = l[i] :: l.drop (i + 1) := List.drop_eq_getElem_cons hlt
    rw [hd] at hall
    simp only [zdR] at hall
    obtain ⟨b, hb⟩ : ∃ b, zd7 l[i] = b := ⟨_, rfl⟩
    have hr := hb ▸ zhB l[i] (hid _ (List.getElem_mem _)).1 (hid _ (List.getElem_mem _)).2
    rw [hb] at hall
    (try ((first | with_reducible refine zs ?_ | with_reducible refine zx ?_ | with_reducible refine zy ?_); simp [zz, a0, a3, hlt, hx, zM, zbj, zad, w1])); repeat' (first | ((first | refine zm ?_ | refine zl ?_ | refine dN (by decide +kernel) ?_ | (refine zb ?_ ?_ <;> (intro hg; simp only [hg])) | fail) <;> simp [zz, a0, a3, hlt, hx, zM, zbj, zad, w1]) | refine zf ?_ | refine zg ?_ | (refine zF ?_; simp only [zG]; try simp) | ((first | refine zq (by simp) ?_ | refine zu (by simp) (by simp) (by simp (maxDischargeDepth := 30) [zz, a0, a3, hlt, hx, zM, zbj, zad, w1]) ?_ | fail); simp) | (refine zd (fun hc => ?_) (fun hc => ?_) <;> try simp at hc) | fail)
    refine PCalls.use hr ?_
    cases b with
    | false =>
      have FF := fI zz.eq_1 (fI @a0 (fI @a3 (fI @hlt (fI @hx (fI @zM (fI @zbj (fI @zad @w1))))))); refine zB ?_; clear FF
      all_goals simp [zeV, hall]
    | true =>
      cases i with
      | zero =>
        have hpos : 1 ≤ l[0].id := by
          have := hb; unfold zd7 at this; simp at this; omega
        have FF := fI zz.eq_1 (fI @a0 (fI @a3 (fI @hlt (fI @hx (fI @zM (fI @zbj (fI @zad @w1))))))); refine zB ?_; clear FF
        have w0 : IntKind.i64.wrap 1 = 1 := zo (by omega) (by omega)
        have hx0 : l[0]? = some l[0] := hx
        have h0 : (0 : Int) < l[0].id := by omega
        have h1 : zhH l 1 = l[0].id := by simp [zhH, hx0]
        exact hI1 (l.length - 1) _ _ (by omega) ⟨rfl, by simp [a0, zz], 1, by simp [w0], by omega, rfl, by rw [hall, h1]; simp [zhH, h0]⟩
      | succ k =>
        have hk : k < l.length := by omega
        have hxk : l[k]? = some l[k] := List.getElem?_eq_getElem hk
        have w2 : IntKind.i64.wrap (k : Int) = k := zo (by omega) (by omega)
        have hp0 : (0 : Int) ≤ (k : Int) + 1 := by omega
        have htn : ((k : Int) + 1).toNat = k + 1 := by omega
        have w4 : IntKind.i64.wrap ((k : Int) + 1 + 1) = (k : Int) + 1 + 1 := zo (by omega) (by omega)
        have w3 : IntKind.i64.wrap ((k : Int) + 1 - 1) = k := by rw [zo (by omega) (by omega)]; omega
        have hidk : zhH l (k + 1) = l[k].id := by simp [zhH, hxk]
        rw [hidk] at hall
        have hpk : (0 : Int) < (k : Int) + 1 := by omega
        by_cases hle : l[k + 1].id ≤ l[k].id
        · have hnl : ¬ l[k].id < l[k + 1].id := by omega
          have FF := fI zz.eq_1 (fI @a0 (fI @a3 (fI @hlt (fI @hx (fI @hk (fI @hxk (fI @zM (fI @zbj (fI @zad (fI @w1 (fI @w2 (fI @w3 (fI @w4 (fI @hp0 (fI @htn (fI @hpk @hle)))))))))))))))); refine zB ?_; clear FF
          all_goals simp [zeV, hall, hnl]
        · have hg : l[k].id < l[k + 1].id := by omega
          (try ((first | with_reducible refine zs ?_ | with_reducible refine zx ?_ | with_reducible refine zy ?_); simp [zz, a0, a3, hlt, hx, hk, hxk, zM, zbj, zad, w1, w2, w3, w4, hp0, htn, hpk, hle])); repeat' (first | ((first | refine zm ?_ | refine zl ?_ | refine dN (by decide +kernel) ?_ | (refine zb ?_ ?_ <;> (intro hg; simp only [hg])) | fail) <;> simp [zz, a0, a3, hlt, hx, hk, hxk, zM, zbj, zad, w1, w2, w3, w4, hp0, htn, hpk, hle]) | refine zf ?_ | refine zg ?_ | (refine zF ?_; simp only [zG]; try simp) | ((first | refine zq (by simp) ?_ | refine zu (by simp) (by simp) (by simp (maxDischargeDepth := 30) [zz, a0, a3, hlt, hx, hk, hxk, zM, zbj, zad, w1, w2, w3, w4, hp0, htn, hpk, hle]) ?_ | fail); simp) | (refine zd (fun hc => ?_) (fun hc => ?_) <;> try simp at hc) | fail)
          exact hI1 (l.length - (k + 1 + 1)) _ _ (by omega) ⟨rfl, by simp [a0, zz], k + 1 + 1, by simp, by omega, rfl, by rw [hall]; simp [zhH, hx, hg]⟩
  · have : i = l.length := by omega
    subst this
    have FF := fI zz.eq_1 (fI @a0 @a3); refine zB ?_; clear FF
    rw [List.drop_length] at hall
    simp only [zdR] at hall
    simp [zeV, hall]
    omega
end Go.Proofs.YtpboabpapgimoaaGreat.Av
namespace Go.Proofs.YtpboabpapgimoaaGreat.Av
open Go
set_option linter.unusedSimpArgs false
set_option linter.unusedVariables false
set_option maxRecDepth 100000
set_option maxHeartbeats 4000000
set_option pp.maxSteps 600
theorem ziP (n : Nw) (f : Fl) (hn : NwOK n) : PCalls Tryz.prog 28 [zR n f] (.raw (.bool (zax n))) := by
  have l1 := hn.ports
  have l2 := hn.links
  have l3 := hn.rules
  have h1 := zkk n.t f (by omega) l2
  have h2 := zmt n.rules f.r l3 hn.id
  have h3 := zlj n.t f n.rules f.r (by omega) (by omega)
  rw [← zo8] at h1
  unfold zax
  have htf : ∀ (N : Nw) (F : Fl), AV.agg [zh N.t.ports F.p, zC N.t.links F.l] = zbJ N.t F := fun _ _ => rfl
  generalize zgh n.t = b1 at h1 ⊢
  generalize zeV n.rules = b2 at h2 ⊢
  generalize zgS n.t n.rules = b3 at h3 ⊢
  refine zE Tryz.func28 rfl (N := 22) rfl rfl (by simp) (by simp [noIds]) fun σ => ?_
  cases b1 <;> cases b2 <;> (have FF := fI @ze @htf; exact gxA)
def zbZ (n : Nw) : Bool := !decide (20 < n.t.ports.length) && (!decide (40 < n.t.links.length) && (!decide (60 < n.rules.length) && zax n))
structure NwW (n : Nw) : Prop where
  rg : ∀ r ∈ n.rules, RgOK r.r
  id : ∀ r ∈ n.rules, -9223372036854775808 ≤ r.id ∧ r.id < 9223372036854775808
theorem NwOK.w {n : Nw} (h : NwOK n) : NwW n := ⟨h.rg, h.id⟩
theorem NwW.small {n : Nw} (h : NwW n) (h1 : ¬ 20 < n.t.ports.length) (h2 : ¬ 40 < n.t.links.length) (h3 : ¬ 60 < n.rules.length) : NwOK n where
  rg := h.rg
  id := h.id
  ports := by omega
  links := by omega
  rules := by omega
theorem NwW.fits {n : Nw} (h : NwW n) (hf : zbZ n = true) : NwOK n := by
  unfold zbZ at hf
  simp only [Bool.and_eq_true, Bool.not_eq_true', decide_eq_false_iff_not] at hf
  exact h.small hf.1 hf.2.1 hf.2.2.1
theorem zch (n : Nw) (f : Fl) (hn : NwW n) : PCalls Tryz.prog 8 [zR n f] (.raw (.bool (zbZ n))) := by
  have h1 := fun a b c => ziP n f (hn.small a b c)
  unfold zbZ
  generalize zax n = b1 at h1 ⊢
  have hp : ∀ m, zaQ Tryz.prog m 22 (zh n.t.ports f.p) = some (.raw (.int .i64 n.t.ports.length)) := fun m => by simp [zh]
  have hk : ∀ m, zaQ Tryz.prog m 23 (zC n.t.links f.l) = some (.raw (.int .i64 n.t.links.length)) := fun m => by simp [zC]
  have hu : ∀ m, zaQ Tryz.prog m 26 (zz n.rules f.r) = some (.raw (.int .i64 n.rules.length)) := fun m => by simp [zz]
  generalize n.t.ports.length = x at hp h1 ⊢
  generalize n.t.links.length = y at hk h1 ⊢
  generalize n.rules.length = z at hu h1 ⊢
  refine zE Tryz.func8 rfl (N := 25) rfl rfl (by simp) (by simp [noIds]) fun σ => ?_
  by_cases q1 : 20 < x
  · have q1' : (20 : Int) < (x : Int) := by omega
    (try ((first | with_reducible refine zs ?_ | with_reducible refine zx ?_ | with_reducible refine zy ?_); simp [-cellOK, ze, zw, -zaQ, hp, hk, hu, q1, q1'])); repeat' (first | ((first | refine zm ?_ | refine zl ?_ | refine dN (by decide +kernel) ?_ | refine dC (by decide +kernel) ?_ | (refine zb ?_ ?_ <;> (intro hg; simp only [hg])) | fail) <;> simp [-cellOK, ze, zw, -zaQ, hp, hk, hu, q1, q1']) | refine zf ?_ | refine zg ?_ | (refine zF ?_; simp only [zG]; try simp) | (refine zq (by simp) ?_; simp) | (refine zam (by simp) (by simp [noIds]) (by repeat (first | assumption | exact Ext.refl _ | refine zK ?_ | refine Ext.setF ?_ (by first | assumption | (simp [za, St.set, zc]; done) | exact zI (by assumption)))) ?_; simp [-cellOK, ze, zw, -zaQ, hp, hk, hu, q1, q1', nsE]) | (refine zd (fun hc => ?_) (fun hc => ?_) <;> try simp at hc) | fail)
  have q1' : ¬ (20 : Int) < (x : Int) := by omega
  by_cases q2 : 40 < y
  · have q2' : (40 : Int) < (y : Int) := by omega
    (try ((first | with_reducible refine zs ?_ | with_reducible refine zx ?_ | with_reducible refine zy ?_); simp [-cellOK, ze, zw, -zaQ, hp, hk, hu, q1, q1', q2, q2'])); repeat' (first | ((first | refine zm ?_ | refine zl ?_ | refine dN (by decide +kernel) ?_ | refine dC (by decide +kernel) ?_ | (refine zb ?_ ?_ <;> (intro hg; simp only [hg])) | fail) <;> simp [-cellOK, ze, zw, -zaQ, hp, hk, hu, q1, q1', q2, q2']) | refine zf ?_ | refine zg ?_ | (refine zF ?_; simp only [zG]; try simp) | (refine zq (by simp) ?_; simp) | (refine zam (by simp) (by simp [noIds]) (by repeat (first | assumption | exact Ext.refl _ | refine zK ?_ | refine Ext.setF ?_ (by first | assumption | (simp [za, St.set, zc]; done) | exact zI (by assumption)))) ?_; simp [-cellOK, ze, zw, -zaQ, hp, hk, hu, q1, q1', q2, q2', nsE]) | (refine zd (fun hc => ?_) (fun hc => ?_) <;> try simp at hc) | fail)
  have q2' : ¬ (40 : Int) < (y : Int) := by omega
  by_cases q3 : 60 < z
  · have q3' : (60 : Int) < (z : Int) := by omega
    (try ((first | with_reducible refine zs ?_ | with_reducible refine zx ?_ | with_reducible refine zy ?_); simp [-cellOK, ze, zw, -zaQ, hp, hk, hu, q1, q1', q2, q2', q3, q3'])); repeat' (first | ((first | refine zm ?_ | refine zl ?_ | refine dN (by decide +kernel) ?_ | refine dC (by decide +kernel) ?_ | (refine zb ?_ ?_ <;> (intro hg; simp only [hg])) | fail) <;> simp [-cellOK, ze, zw, -zaQ, hp, hk, hu, q1, q1', q2, q2', q3, q3']) | refine zf ?_ | refine zg ?_ | (refine zF ?_; simp only [zG]; try simp) | (refine zq (by simp) ?_; simp) | (refine zam (by simp) (by simp [noIds]) (by repeat (first | assumption | exact Ext.refl _ | refine zK ?_ | refine Ext.setF ?_ (by first | assumption | (simp [za, St.set, zc]; done) | exact zI (by assumption)))) ?_; simp [-cellOK, ze, zw, -zaQ, hp, hk, hu, q1, q1', q2, q2', q3, q3', nsE]) | (refine zd (fun hc => ?_) (fun hc => ?_) <;> try simp at hc) | fail)
  have q3' : ¬ (60 : Int) < (z : Int) := by omega
  have h1 := h1 q1 q2 q3
  (try ((first | with_reducible refine zs ?_ | with_reducible refine zx ?_ | with_reducible refine zy ?_); simp [-cellOK, ze, zw, -zaQ, hp, hk, hu, q1, q1', q2, q2', q3, q3'])); repeat' (first | ((first | refine zm ?_ | refine zl ?_ | refine dN (by decide +kernel) ?_ | refine dC (by decide +kernel) ?_ | refine uP (h1) ?_ | refine .inl ⟨_, .inl (h1), ?_⟩ | (refine zb ?_ ?_ <;> (intro hg; simp only [hg])) | fail) <;> simp [-cellOK, ze, zw, -zaQ, hp, hk, hu, q1, q1', q2, q2', q3, q3']) | refine zf ?_ | refine zg ?_ | (refine zF ?_; simp only [zG]; try simp) | (refine zq (by simp) ?_; simp) | (refine zam (by simp) (by simp [noIds]) (by repeat (first | assumption | exact Ext.refl _ | refine zK ?_ | refine Ext.setF ?_ (by first | assumption | (simp [za, St.set, zc]; done) | exact zI (by assumption)))) ?_; simp [-cellOK, ze, zw, -zaQ, hp, hk, hu, q1, q1', q2, q2', q3, q3', nsE]) | (refine zd (fun hc => ?_) (fun hc => ?_) <;> try simp at hc) | fail)
def zcl (n m : Nw) (f g : Fl) : AV := .agg ((zR n f).cells ++ (zR m g).cells)
theorem zaB (n m : Nw) (f g : Fl) : (zcl n m f g).cells = [zh n.t.ports f.p, zC n.t.links f.l, zz n.rules f.r, zh m.t.ports g.p, zC m.t.links g.l, zz m.rules g.r] := rfl
def zw4 (n m : Nw) (q : Qy) : Bool := zbZ n && (zbZ m && decide (q.other.size ≤ 60))
def zcU : Nw := ⟨⟨[2, 3, 2], [⟨⟨0, 1⟩, ⟨1, 0⟩⟩, ⟨⟨1, 1⟩, ⟨2, 0⟩⟩]⟩, [⟨1, 0, 0, 0, ⟨0, 99⟩, 1⟩, ⟨2, 1, 0, 0, ⟨0, 49⟩, 1⟩, ⟨3, 1, 0, 0, ⟨50, 59⟩, 0⟩, ⟨4, 2, 0, 0, ⟨0, 29⟩, 1⟩, ⟨5, 2, 0, 3, ⟨20, 24⟩, 0⟩]⟩
def flN : Fl := ⟨false, false, false⟩
theorem zkl : NwOK zcU where
  rg := by
    intro r hr
    simp only [zcU, List.mem_cons, List.not_mem_nil, or_false] at hr
    rcases hr with rfl | rfl | rfl | rfl | rfl <;> exact ⟨by decide, by decide, by decide, by decide⟩
  ports := by decide
  links := by decide
  rules := by decide
  id := by
    intro r hr
    simp only [zcU, List.mem_cons, List.not_mem_nil, or_false] at hr
    rcases hr with rfl | rfl | rfl | rfl | rfl <;> exact ⟨by decide, by decide⟩
theorem zo9 : PCalls Tryz.prog 29 [] (zR zcU flN) := by
  refine zE Tryz.func29 rfl (N := 26) rfl rfl (by simp) (by simp [noIds]) fun σ => ?_
  have FF := fI @zt (fI @zD @za); refine gxC ?_; clear FF
  refine zbG (x := .agg [.rs ⟨3, σ.nx 3, 1⟩ 0 3, .rs ⟨10, σ.nx 10, 4⟩ 0 2, .rs ⟨22, σ.nx 22, 7⟩ 0 5]) (.inr rfl) exA ?_ ?_
  · simp [zt, zD, za]
  · simp [z0, zr, zc, zt, zD, za, zR, zh, zC, zz, zcU, flN, iAV, ziI, zab]
def aq1 : Qy := ⟨0, 0, 2, 0, ⟨5, 30⟩, ⟨#[]⟩⟩
def aq2 : Qy := ⟨4, 0, 2, 1, ⟨0, 4294967295⟩, ⟨#[]⟩⟩
def aq3 : Qy := ⟨1, 0, 0, 0, ⟨0, 59⟩, ⟨#[]⟩⟩
end Go.Proofs.YtpboabpapgimoaaGreat.Av
namespace Go.Proofs.YtpboabpapgimoaaGreat.Av
set_option linter.unusedSimpArgs false
set_option linter.unusedVariables false
structure RightQ (n : Nw) (q : Qy) : Prop where
  k0 : 0 ≤ q.kind
  k5 : q.kind ≤ 5
  le : q.r.lo ≤ q.r.hi
  a : 0 ≤ q.a ∧ q.a < n.t.ports.length
  b : 0 ≤ q.b ∧ q.b < n.t.ports.length
  w : 0 ≤ q.w ∧ q.w < n.t.ports.length
  one : zkj q = true ∨ (q.a = 0 ∧ q.b = 0)
  way : q.kind = 4 ∨ q.w = 0
  oth : q.kind = 5 ∨ znt q = true
structure RunOK (n m : Nw) (q : Qy) (v : Vd) (M : Nw) : Prop where
  right : RightQ n q
  top : q.kind = 5 → n.t = m.t
  other : M = if q.kind = 5 then m else n
  res : (v = ⟨true, 0, 0, zpU⟩ ∧ zlH n M q (zba [n, M] q.r) (ziO n q) = none) ∨ zlH n M q (zba [n, M] q.r) (ziO n q) = some v
theorem zgl {l : List Nw} {r p : Rg} (h : p ∈ zba l r) : r.lo ≤ p.lo ∧ p.lo ≤ p.hi ∧ p.hi ≤ r.hi := by
  unfold zba at h
  split at h
  · simp at h
  · obtain ⟨a, _, b1, b2, b3, b4, b5⟩ := zms h
    omega
structure Broken (n m : Nw) (q : Qy) (v : Vd) : Prop where
  lo : q.r.lo ≤ v.addr
  hi : v.addr ≤ q.r.hi
  dev : q.kind = 5 → (zk m v.src v.addr).2 = 0
  gen : zpT n v.addr v.tr = true
  head : ∃ l, v.tr.path = v.src :: l
  brk : znu q v.tr (zk m v.src v.addr).1 = true
end Go.Proofs.YtpboabpapgimoaaGreat.Av
namespace Go.Proofs.YtpboabpapgimoaaGreat.Av
open Go
set_option linter.unusedSimpArgs false
set_option linter.unusedVariables false
set_option maxRecDepth 100000
set_option maxHeartbeats 4000000
set_option pp.maxSteps 600
def atI (n : Nw) (d a : Int) : Int := if (zap n d a).1 = 2 then -3 else if (zap n d a).1 = 1 then -2 else if (zap n d a).1 = 0 then -1 else (zap n d a).2.port
def zrw (n : Nw) (T : Option Tab) (d : Int) : List Int := (List.range (T.getD zW).b.sz.toNat).map fun i : Nat => atI n d ((zgU T i).getD ⟨0, 0⟩).lo
end Go.Proofs.YtpboabpapgimoaaGreat.Av
namespace Go.Proofs.YtpboabpapgimoaaGreat.Av
open Go
set_option linter.unusedSimpArgs false
set_option linter.unusedVariables false
set_option maxRecDepth 100000
set_option maxHeartbeats 4000000
set_option pp.maxSteps 600
structure Lab where
  n : Nw
  t : Option Tab
  rows : List (List Int)
def inAV (l : List Int) : AV := zh l false
def zup (L : Lab) : List AV := [zh L.n.t.ports false, zC L.n.t.links false, zz L.n.rules false, za1 L.t, .sl 1 (L.rows.map inAV) false]
def labO : Option Lab → AV
  | none => .raw (.pointer none)
  | some L => .pp (zup L) 0
def zrx (l : List Ru) : Option Tab := l.foldl (fun T x => (zf0 T x.r).1) (some zW)
def ztb (n : Nw) : Lab := ⟨n, zrx n.rules, (List.range n.t.ports.length).map fun d : Nat => zrw n (zrx n.rules) d⟩
def ofL (n : Nw) : Option Lab × Int := if zax n then (some (ztb n), 0) else (none, 71)
end Go.Proofs.YtpboabpapgimoaaGreat.Av
namespace Go.Proofs.YtpboabpapgimoaaGreat.Av
open Go
set_option linter.unusedSimpArgs false
set_option linter.unusedVariables false
set_option maxRecDepth 100000
set_option maxHeartbeats 4000000
set_option pp.maxSteps 600
def zzz (L : Lab) (d a : Int) : Option Int := if 0 ≤ d ∧ 0 ≤ a then (L.rows[d.toNat]?).bind fun r => r[a.toNat]? else none
end Go.Proofs.YtpboabpapgimoaaGreat.Av
namespace Go.Proofs.YtpboabpapgimoaaGreat.Av
open Go
set_option linter.unusedSimpArgs false
set_option linter.unusedVariables false
set_option maxRecDepth 100000
set_option maxHeartbeats 4000000
set_option pp.maxSteps 600
def zw5 (n : Nw) (d a : Int) : Int := if (zcT n d a).1 = 2 then -3 else if (zcT n d a).1 = 1 then -2 else if (zcT n d a).1 = 0 then -1 else (zcT n d a).2.port
end Go.Proofs.YtpboabpapgimoaaGreat.Av
namespace Go.Proofs.YtpboabpapgimoaaGreat.Av
open Go
set_option linter.unusedSimpArgs false
set_option linter.unusedVariables false
set_option maxRecDepth 100000
set_option maxHeartbeats 4000000
set_option pp.maxSteps 600
theorem zjI (l : List (Nw × Fl)) (f : Bool) (r : Rg) (hr : RgOK r) (hn : ∀ p ∈ l, NwOK p.1) (hl : l.length < 2 ^ 40) {σ : St} {K : AV → St → Prop}
    (hK : ∀ v τ, OwnL σ τ 2 v ((zba (l.map (·.1)) r).map zp) → Ext σ τ → K (.tup [v, .raw (.int .i64 (if r.hi < r.lo then 31 else 0))]) τ) :
    ACalls Tryz.prog 21 [zaN l f, zp r] σ K := by
  refine zaZ Tryz.func21 rfl (N := 76) rfl rfl (by simp) ?_
  have hrf : ∀ x y : Int, AV.agg [.raw (.int .u32 x), .raw (.int .u32 y)] = zp ⟨x, y⟩ := fun _ _ => rfl
  have f3 : σ.m ⟨3, σ.nx 3, 2⟩ = none := zc _ _ _
  by_cases q0 : r.hi < r.lo
  · unfold zba at hK
    rw [if_pos q0, if_pos q0] at hK
    have FF := fI @rg_cells (fI @hrf @q0); refine gxC ?_; clear FF
    exact zY (x := .tup [.sl 0 [] true, .raw (.int .i64 31)]) (.inr rfl) (by simp) (hK _ _ (.inl ⟨rfl, rfl⟩) exA)
  rw [if_neg q0] at hK
  refine zf ?_
  have C0 := zec; have FF := fI @rg_cells (fI @hrf @q0); refine gxC ?_; clear FF
  refine z8 ⟨3, σ.nx 3, 2⟩ ?_
  generalize hτ : St.del _ _ = τ
  generalize hA : (fun t => zr _ _ _) = A
  have a3 : A 3 = .pp [.raw (.int .u32 r.lo), .raw (.int .u32 r.hi)] 0 := by rw [← hA, ← hτ]; simp [zr, St.new, St.del, rg_cells]
  have a6 : A 6 = za1 (some zW) := by rw [← hA]; simp [za1, zdi]
  have a21 : A 21 = zaN l f := by rw [← hA]; simp [zaN]
  have a22 : A 22 = .raw (.int .i64 l.length) := by rw [← hA]; simp [zaN]
  have a23 : A 23 = .raw (.int .i64 0) := by rw [← hA]; simp
  have hE : Ext σ τ := by
    rw [← hτ]
    refine ⟨fun i o h => ?_, fun s => ?_⟩
    · rw [zU (fun e => by rw [e, zc] at h; cases h)]
      exact zaz _ _ h
    · exact St.new_le σ 3 2 (.buf [zp r]) s
  clear hτ hA
  refine zO (fun n B ρ => Ext σ ρ ∧ B 3 = .pp [.raw (.int .u32 r.lo), .raw (.int .u32 r.hi)] 0 ∧ B 21 = zaN l f ∧ B 22 = .raw (.int .i64 l.length) ∧ ∃ (i : Nat) (T : Option Tab) (s : Option (List Rg)), B 23 = .raw (.int .i64 i) ∧ i ≤ l.length ∧ n = l.length - i ∧ B 6 = za1 T ∧ RepO T s ∧ s = (zal ((l.take i).map (·.1))).foldl zcD (some [])) l.length ?_ ?_
  · exact ⟨hE, a3, a21, a22, 0, some zW, some [], a23, by omega, by omega, a6, ⟨zki, by simp⟩, by simp [zal]⟩
  clear hE a3 a6 a21 a22 a23
  rintro n B ρ ⟨hE, a3, a21, a22, i, T, s, a23, hi, rfl, a6, hrep, hs⟩ I1 hI1
  by_cases hlt : i < l.length
  · have hx : l[i]? = some l[i] := List.getElem?_eq_getElem hlt
    have w1 : IntKind.i64.wrap ((i : Int) + 1) = ((i + 1 : Nat) : Int) := by rw [zo (by omega) (by omega)]; omega
    obtain ⟨nf, hnf⟩ : ∃ nf, l[i] = nf := ⟨_, rfl⟩
    have hok : NwOK nf.1 := hn nf (by rw [← hnf]; exact List.getElem_mem hlt)
    have hsum : zal ((l.take (i + 1)).map (·.1)) = zal ((l.take i).map (·.1)) ++ nf.1.rules.map (·.r) := by
      rw [List.take_add_one, hx, hnf]; simp [zal]
    obtain ⟨N, fl⟩ := nf
    have hrl : N.rules.length < 2932031007403 := hok.rules
    have hnn : zR N fl = .agg [zh N.t.ports fl.p, zC N.t.links fl.l, zz N.rules fl.r] := rfl
    have hnp : ∀ z : AV, z.cells.length = 3 → setPart (AV.agg [.sl 0 [] true, .sl 0 [] true, .sl 0 [] true]) 0 z.cells = .agg z.cells := fun z hz => by
      obtain ⟨a, b, c, h⟩ : ∃ a b c, z.cells = [a, b, c] := by
        match hh : z.cells with
        | [a, b, c] => exact ⟨a, b, c, rfl⟩
        | [] => rw [hh] at hz; cases hz
        | [_] => rw [hh] at hz; cases hz
        | [_, _] => rw [hh] at hz; cases hz
        | _ :: _ :: _ :: _ :: _ => rw [hh] at hz; simp at hz
      rw [h]; rfl
    have FF := fI @a3 (fI @a6 (fI @a21 (fI @a22 (fI @a23 (fI zaN.eq_1 (fI @hlt (fI @hx (fI @hnf (fI @hnn @ze))))))))); refine gxB ?_; clear FF
    refine zO (fun n C τ => Ext σ τ ∧ C 3 = .pp [.raw (.int .u32 r.lo), .raw (.int .u32 r.hi)] 0 ∧ C 21 = zaN l f ∧ C 22 = .raw (.int .i64 l.length) ∧ C 23 = .raw (.int .i64 i) ∧ C 28 = zz N.rules fl.r ∧ C 29 = .raw (.int .i64 N.rules.length) ∧ ∃ (j : Nat) (T : Option Tab) (s' : Option (List Rg)), C 30 = .raw (.int .i64 j) ∧ j ≤ N.rules.length ∧ n = N.rules.length - j ∧ C 6 = za1 T ∧ RepO T s' ∧ s' = ((N.rules.take j).map (·.r)).foldl zcD s) N.rules.length ?_ ?_
    · exact ⟨exA, by simp [a3], by simp [a21, zaN], by simp [a22], by simp [a23], by simp [zz], by simp [zz], 0, T, s, by simp, by omega, by omega, by simp [a6], hrep, by simp⟩
    clear hE a3 a6 a21 a22 a23 hrep
    rintro n C τ ⟨hE, a3, a21, a22, a23, a28, a29, j, T, s', a30, hj, rfl, a6, hrep, hs'⟩ J1 hJ1
    by_cases hjl : j < N.rules.length
    · have hxj : N.rules[j]? = some N.rules[j] := List.getElem?_eq_getElem hjl
      have w2 : IntKind.i64.wrap ((j : Int) + 1) = ((j + 1 : Nat) : Int) := by rw [zo (by omega) (by omega)]; omega
      have hrk := hok.rg _ (List.getElem_mem hjl)
      have hst : ((N.rules.take (j + 1)).map (·.r)).foldl zcD s = zcD s' N.rules[j].r := by
        rw [List.take_add_one, hxj, List.map_append, List.foldl_append, ← hs']; rfl
      obtain ⟨x, hxe⟩ : ∃ x, N.rules[j] = x := ⟨_, rfl⟩
      rw [hxe] at hrk hst
      obtain ⟨g1, g2⟩ := hrep.step hrk
      have hadd := zkY T x.r g1
      have hxr : AV.agg [.raw (.int .u32 x.r.lo), .raw (.int .u32 x.r.hi)] = zp x.r := rfl
      generalize (zf0 T x.r).1 = T' at hadd g2
      generalize (zf0 T x.r).2 = e' at hadd
      have FF := fI @a3 (fI @a6 (fI @a21 (fI @a22 (fI @a23 (fI @a28 (fI @a29 (fI @a30 (fI zz.eq_1 (fI @hjl (fI @hxj (fI @hxe (fI @zM (fI @hxr @w2))))))))))))); refine gxB ?_; clear FF
      refine hJ1 (N.rules.length - (j + 1)) _ _ (by omega) ⟨exA, by simp [a3], by simp [a21], by simp [a22], by simp [a23], by simp [a28], by simp [a29], j + 1, T', zcD s' x.r, by simp, by omega, rfl, by simp, g2, hst.symm⟩
    · have : j = N.rules.length := by omega
      subst this
      rw [List.take_length] at hs'
      have FF := fI @a3 (fI @a6 (fI @a21 (fI @a22 (fI @a23 (fI @a28 (fI @a29 (fI @a30 @w1))))))); refine gxB ?_; clear FF
      refine hI1 (l.length - (i + 1)) _ _ (by omega) ⟨hE, by simp [a3], by simp [a21], by simp [a22], i + 1, T, s', by simp, by omega, rfl, by simp [a6], hrep, ?_⟩
      rw [hsum, List.foldl_append, ← hs, hs']
  · have : i = l.length := by omega
    subst this
    rw [List.take_length] at hs
    have hL : zgY (zal (l.map (·.1))) = s.getD [] := by rw [hs]; rfl
    obtain ⟨hrp, hsl⟩ := hrep.get
    unfold zba at hK
    rw [if_neg q0, hL] at hK
    clear hs hL hI1 hrep
    generalize s.getD [] = L at hrp hsl hK
    obtain ⟨r0, r1, r2, r3⟩ := hr
    have hcc := zbt L
    have hcl : (zaF L).length ≤ 1 + 2 * L.length := by
      have := zeq (m := 0 :: zcB L) (hcc.srt.imp fun h => by omega) fun x hx => by
        rw [List.mem_cons]; simp only [zcB, List.mem_flatMap]; exact (hcc.mem x).1 hx
      have := zfO L
      simp only [List.length_cons] at *
      omega
    have hbz : (T.getD zW).b.sz < 2 ^ 40 := by rw [znr hrp]; omega
    have k1 := hcc.pos (a := r.lo) r0
    have k2 := hcc.pos (a := r.hi) r2
    obtain ⟨p, hp⟩ : ∃ p, (zaF L).countP (fun y => decide (y ≤ r.lo)) = p + 1 := ⟨_, (Nat.succ_pred_eq_of_pos k1).symm⟩
    obtain ⟨q, hq⟩ : ∃ p, (zaF L).countP (fun y => decide (y ≤ r.hi)) = p + 1 := ⟨_, (Nat.succ_pred_eq_of_pos k2).symm⟩
    obtain ⟨hpq, hqA, hcut⟩ := zhD hcc ⟨r0, r1, r2, r3⟩ (by omega) hp hq
    have ho1 := zeD T r.lo r0 r1 hbz
    have ho2 := zeD T r.hi r2 r3 hbz
    rw [zjF hrp, hp, show (((p + 1 : Nat) : Int) - 1) = (p : Int) by omega] at ho1
    rw [zjF hrp, hq, show (((q + 1 : Nat) : Int) - 1) = (q : Int) by omega] at ho2
    rw [hcut] at hK
    have hA := zcx (zaF L)
    have hat := fun i => zmq hrp i
    generalize zaE (zaF L) = Al at *
    generalize zaF L = c at *
    obtain ⟨G, hG⟩ : ∃ G : Nat → Rg, G = fun k => ⟨max (Al.getD (p + k) ⟨0, 0⟩).lo r.lo, min (Al.getD (p + k) ⟨0, 0⟩).hi r.hi⟩ := ⟨_, rfl⟩
    rw [← hG] at hK
    have FF := fI @a3 (fI @a6 (fI @a21 (fI @a22 @a23))); refine gxB ?_; clear FF
    refine zO (fun n B ρ => Ext σ ρ ∧ B 3 = .pp [.raw (.int .u32 r.lo), .raw (.int .u32 r.hi)] 0 ∧ B 6 = za1 T ∧ ∃ (j : Nat) (k : Int) (v : AV), B 12 = .raw (.int .i64 k) ∧ k = (p + j : Nat) ∧ j ≤ q + 1 - p ∧ n = q + 1 - p - j ∧ B 11 = v ∧ OwnL σ ρ 2 v (((List.range j).map G).map zp)) (q + 1 - p) ?_ ?_
    · exact ⟨hE, by simp [a3], by simp [a6], 0, p, .sl 0 [] true, by simp, by omega, by omega, by omega, by simp, .inl ⟨by simp, rfl⟩⟩
    clear hE a3 a6 a21 a22 a23
    rintro n B ρ ⟨hE, a3, a6, j, k, v, a12, hk, hj, rfl, a11, hO⟩ I1 hI1
    by_cases hjl : j < q + 1 - p
    · have hxa : Al[p + j]? = some Al[p + j] := List.getElem?_eq_getElem (by omega)
      have w1 : IntKind.i64.wrap (k + 1) = k + 1 := zo (by omega) (by omega)
      have hac := zjD T k hbz
      rw [hat, if_pos (by omega), show k.toNat = p + j by omega, hxa] at hac
      have hGj : G j = ⟨max Al[p + j].lo r.lo, min Al[p + j].hi r.hi⟩ := by
        rw [hG]; simp only [List.getD_eq_getElem?_getD, hxa, Option.getD_some]
      simp only [Option.getD_some, Option.isSome_some] at hac
      generalize Al[p + j] = a at hac hGj
      have m1 : (if a.lo < r.lo then r.lo else a.lo) = (G j).lo := by rw [hGj]; simp only []; rw [Int.max_def]; split <;> split <;> omega
      have m2 : (if r.hi < a.hi then r.hi else a.hi) = (G j).hi := by rw [hGj]; simp only []; rw [Int.min_def]; split <;> split <;> omega
      have hle : k ≤ (q : Int) := by omega
      have hrq : ∀ x y : Int, setPart (zp ⟨0, 0⟩) 0 [.raw (.int .u32 x), .raw (.int .u32 y)] = zp ⟨x, y⟩ := fun _ _ => rfl
      (try ((first | with_reducible refine zs ?_ | with_reducible refine zx ?_ | with_reducible refine zy ?_); simp [-cellOK, a3, a6, a11, a12, hle, rg_cells, m1, m2, hrf, hrq, w1, -zJ])); repeat' (first | ((first | refine zm ?_ | refine zl ?_ | refine dN (by decide +kernel) ?_ | refine dC (by decide +kernel) ?_ | refine uP (ho2) ?_ | refine .inl ⟨_, .inl (ho2), ?_⟩ | refine uP (hac) ?_ | refine .inl ⟨_, .inl (hac), ?_⟩ | (refine zb ?_ ?_ <;> (intro hg; simp only [hg])) | fail) <;> simp [-cellOK, a3, a6, a11, a12, hle, rg_cells, m1, m2, hrf, hrq, w1, -zJ]) | refine zf ?_ | refine zg ?_ | (refine zF ?_; simp only [zG]; try simp) | (refine zq (by simp) ?_; simp) | (refine zam (by simp) (by simp [noIds]) (by repeat (first | assumption | exact Ext.refl _ | refine zK ?_ | refine Ext.setF ?_ (by first | assumption | (simp [za, St.set, zc]; done) | exact zI (by assumption)))) ?_; simp [-cellOK, a3, a6, a11, a12, hle, rg_cells, m1, m2, hrf, hrq, w1, -zJ, nsE]) | (refine zd (fun hc => ?_) (fun hc => ?_) <;> try simp at hc) | fail)
      refine zaV zfM (σ0 := σ) (hO.ext exA) exA (ys := [zp ⟨(G j).lo, (G j).hi⟩]) (by simp [zt, za]) (.inr rfl) (by simp [rg_cells]) (by simp; omega) ?_
      intro v' τ' hO' hE' _ _
      have FF := fI @a3 (fI @a6 (fI @a12 @w1)); refine gxB ?_; clear FF
      refine hI1 (q + 1 - p - (j + 1)) _ _ (by omega) ⟨hE', by simp [a3], by simp [a6], j + 1, k + 1, v', by simp, by omega, by omega, rfl, by simp, ?_⟩
      rw [List.range_succ, List.map_append, List.map_append]
      exact hO'
    · have hje : j = q + 1 - p := by omega
      subst hje
      have hle : ¬ k ≤ (q : Int) := by omega
      have FF := fI @a3 (fI @a6 (fI @a11 (fI @a12 @hle))); refine gxC ?_; clear FF
      exact zY (x := .tup [v, .raw (.int .i64 0)]) (.inr rfl) (by simp) (hK v _ hO hE)
theorem zf2 : PCalls Tryz.prog 31 [] (zp ⟨0, 4294967295⟩) := by
  refine zE Tryz.func31 rfl (N := 2) rfl rfl (by simp) (by simp [noIds]) fun σ => ?_
  have FF := fI @zt (fI @zD @za); refine gxB ?_; clear FF
  rfl
theorem zmu (n : Nw) (f : Fl) (d : Int) : PCalls Tryz.prog 59 [.raw (.int .i64 d), .pp (zR n f).cells 0] (.raw (.bool (zas n d))) := by
  refine zE Tryz.func59 rfl (N := 14) rfl rfl (by simp) (by simp [noIds]) fun σ => ?_
  unfold zas
  by_cases h1 : d < 0
  · have h1' := eq_true h1
    (try ((first | with_reducible refine zs ?_ | with_reducible refine zx ?_ | with_reducible refine zy ?_); simp [-cellOK, ze, zh, h1'])); repeat' (first | ((first | refine zm ?_ | refine zl ?_ | refine dN (by decide +kernel) ?_ | refine dC (by decide +kernel) ?_ | (refine zb ?_ ?_ <;> (intro hg; simp only [hg])) | fail) <;> simp [-cellOK, ze, zh, h1']) | refine zf ?_ | refine zg ?_ | (refine zF ?_; simp only [zG]; try simp) | (refine zq (by simp) ?_; simp) | (refine zam (by simp) (by simp [noIds]) (by repeat (first | assumption | exact Ext.refl _ | refine zK ?_ | refine Ext.setF ?_ (by first | assumption | (simp [za, St.set, zc]; done) | exact zI (by assumption)))) ?_; simp [-cellOK, ze, zh, h1', nsE]) | (refine zd (fun hc => ?_) (fun hc => ?_) <;> try simp at hc) | fail)
  · have h1' := eq_false h1
    (try ((first | with_reducible refine zs ?_ | with_reducible refine zx ?_ | with_reducible refine zy ?_); simp [-cellOK, ze, zh, h1'])); repeat' (first | ((first | refine zm ?_ | refine zl ?_ | refine dN (by decide +kernel) ?_ | refine dC (by decide +kernel) ?_ | (refine zb ?_ ?_ <;> (intro hg; simp only [hg])) | fail) <;> simp [-cellOK, ze, zh, h1']) | refine zf ?_ | refine zg ?_ | (refine zF ?_; simp only [zG]; try simp) | (refine zq (by simp) ?_; simp) | (refine zam (by simp) (by simp [noIds]) (by repeat (first | assumption | exact Ext.refl _ | refine zK ?_ | refine Ext.setF ?_ (by first | assumption | (simp [za, St.set, zc]; done) | exact zI (by assumption)))) ?_; simp [-cellOK, ze, zh, h1', nsE]) | (refine zd (fun hc => ?_) (fun hc => ?_) <;> try simp at hc) | fail)
end Go.Proofs.YtpboabpapgimoaaGreat.Av
namespace Go.Proofs.YtpboabpapgimoaaGreat.Av.Zn
open Go
set_option linter.unusedSimpArgs false
set_option linter.unusedVariables false
set_option maxRecDepth 100000
attribute [ext] Rg
def zAV (z : List Rg) (full : Bool) : AV := .sl 2 (z.map zp) full
theorem same_calls (x y : List Rg) (fx fy : Bool) (hlx : x.length < 2 ^ 60) : PCalls Tryz.prog 12 [zAV x fx, zAV y fy] (.raw (.bool (decide (x = y)))) := by
  refine zE Tryz.func12 rfl (N := 26) rfl rfl (by simp) (by simp [noIds, AV.ids]) fun σ => ?_
  refine zf ?_
  refine zl ?_
  simp
  refine zf ?_
  refine zf ?_
  refine zl ?_
  simp [zAV]
  refine zcQ ?_
  simp
  constructor
  · intro hne
    refine zf ?_
    refine zl ?_
    simp
    refine zfd ?_
    simp
    refine zq (.inr rfl) ?_
    simp
    rintro rfl; exact hne rfl
  intro hlen
  have hlen : x.length = y.length := by omega
  refine zen ?_
  simp
  refine zf ?_
  refine zf ?_
  refine zl ?_
  simp
  refine zg ?_
  refine zaM (fun n A σ' => σ' = σ ∧ A 0 = zAV x fx ∧ A 1 = zAV y fy ∧ ∃ i : Nat, A 5 = .raw (.int .i64 i) ∧ i ≤ x.length ∧ n = x.length - i ∧ x.take i = y.take i) x.length ?_ ?_
  · simp [zAV]; exact ⟨0, by simp⟩
  rintro n A σ' ⟨rfl, h0, h1, i, h5, hi, rfl, htk⟩
  refine zf ?_
  refine zf ?_
  refine zl ?_
  simp [h0, h1, h5, zAV]
  refine zcQ ?_
  simp
  constructor
  · intro hlt
    refine zen ?_
    simp
    refine zf ?_
    refine zg ?_
    refine zf ?_
    have hx : x[i]? = some x[i] := List.getElem?_eq_getElem (by omega)
    have hy : y[i]? = some (y[i]'(by omega)) := List.getElem?_eq_getElem (by omega)
    refine zbF (fun _ => false) zc8 (by decide +kernel) ?_
    simp [h0, h1, h5, zAV, hx, hy, zp]
    refine zcQ ?_
    simp
    constructor
    · intro hne
      refine zf ?_
      refine zl ?_
      simp
      refine zfd ?_
      simp
      refine zq (.inr rfl) ?_
      simp
      rintro rfl
      simp at hne
    · intro h6 h7
      refine zen ?_
      simp
      refine zl ?_
      simp [h5, h0, h1]
      refine ⟨x.length - (i + 1), by omega, i + 1, ?_, by omega, rfl, ?_⟩
      · rw [zo (by omega) (by omega)]; simp
      · rw [List.take_add_one, List.take_add_one, htk, hx, hy, Rg.ext h6 h7]
  · intro hge
    refine zgC ?_
    simp
    refine zf ?_
    refine zl ?_
    simp
    refine zfd ?_
    refine zq (.inr rfl) ?_
    simp
    have : i = x.length := by omega
    subst this
    rw [List.take_length, hlen, List.take_length] at htk
    exact htk
end Go.Proofs.YtpboabpapgimoaaGreat.Av.Zn
namespace Go.Proofs.YtpboabpapgimoaaGreat.Av.Zn
open Go
set_option linter.unusedSimpArgs false
set_option linter.unusedVariables false
set_option maxRecDepth 100000
set_option pp.maxSteps 300
def _root_.Go.Proofs.YtpboabpapgimoaaGreat.Av.Rg.In (r : Rg) : Prop := 0 ≤ r.lo ∧ r.lo < 4294967296 ∧ 0 ≤ r.hi ∧ r.hi < 4294967296
def InZ (z : List Rg) : Prop := ∀ r ∈ z, r.In
def zuq (z : List Rg) (i : Nat) : Bool :=
  match z[i]? with
  | some r => decide (r.lo ≤ r.hi) && (i == 0 || match z[i - 1]? with | some p => decide (p.hi + 1 < r.lo) | none => true)
  | none => true
def zw6 (z : List Rg) : Bool := (List.range z.length).all (zuq z)
end Go.Proofs.YtpboabpapgimoaaGreat.Av.Zn
namespace Go.Proofs.YtpboabpapgimoaaGreat.Av.Zn
open Go
set_option linter.unusedSimpArgs false
set_option linter.unusedVariables false
set_option maxRecDepth 100000
set_option pp.maxSteps 300
def zw7 (z : List Rg) (i : Nat) : Int := match i with | 0 => -2 | k + 1 => match z[k]? with | some r => r.hi | none => -2
def zw8 (z : List Rg) : AV := match z with | [] => .tup [.raw (.int .u32 0), .raw (.bool false)] | r :: _ => .tup [.raw (.int .u32 r.lo), .raw (.bool true)]
def hasB (z : List Rg) (a : Int) : Bool := z.any fun r => decide (r.lo ≤ a) && decide (a ≤ r.hi)
theorem zpa {z : List Rg} {a : Int} {i : Nat} {r : Rg} (hx : z[i]? = some r) (h1 : r.lo ≤ a) (h2 : a ≤ r.hi) : hasB z a = true := by
  unfold hasB
  rw [List.any_eq_true]
  exact ⟨r, List.mem_of_getElem? hx, by simp [h1, h2]⟩
theorem zk5 {z : List Rg} {a : Int} {i : Nat} {r : Rg} (hx : z[i]? = some r) : hasB (z.take (i + 1)) a = (hasB (z.take i) a || (decide (r.lo ≤ a) && decide (a ≤ r.hi))) := by
  rw [List.take_add_one, hx]; simp [hasB]
theorem refHas_calls (z : List Rg) (fz : Bool) (a : Int) (hl : z.length < 2 ^ 60) : PCalls Tryz.prog 27 [zAV z fz, .raw (.int .u32 a)] (.raw (.bool (hasB z a))) := by
  refine zE Tryz.func27 rfl (N := 28) rfl rfl (by simp) (by simp [noIds]) fun σ => ?_
  have FF := zAV.eq_1; refine zB ?_; clear FF
  refine zaM (fun n A τ => τ = σ ∧ A 0 = zAV z fz ∧ A 1 = .raw (.int .u32 a) ∧ ∃ i : Nat, A 5 = .raw (.int .i64 i) ∧ i ≤ z.length ∧ n = z.length - i ∧ hasB (z.take i) a = false) z.length ?_ ?_
  · simp [zAV]
    exact ⟨0, by simp [hasB]⟩
  rintro n A τ ⟨rfl, a0, a1, i, a3, hi, rfl, hno⟩
  by_cases hlt : i < z.length
  · have hx : z[i]? = some z[i] := List.getElem?_eq_getElem (by omega)
    have w3 : IntKind.i64.wrap ((i : Int) + 1) = (i : Int) + 1 := zo (by omega) (by omega)
    (try ((first | with_reducible refine zs ?_ | with_reducible refine zx ?_ | with_reducible refine zy ?_); simp [a0, a1, a3, zAV, hlt, hx, zp])); repeat' (first | ((first | refine zm ?_ | refine zl ?_ | refine dN (by decide +kernel) ?_ | (refine zb ?_ ?_ <;> (intro hg; simp only [hg])) | fail) <;> simp [a0, a1, a3, zAV, hlt, hx, zp]) | refine zf ?_ | refine zg ?_ | (refine zF ?_; simp only [zG]; try simp) | ((first | refine zq (by simp) ?_ | refine zu (by simp) (by simp) (by simp (maxDischargeDepth := 30) [a0, a1, a3, zAV, hlt, hx, zp]) ?_ | fail); simp) | (refine zd (fun hc => ?_) (fun hc => ?_) <;> try simp at hc) | fail)
    · exact zpa hx (by simpa using hg) hc
    · rw [w3]
      refine ⟨z.length - (i + 1), by omega, i + 1, by simp, by omega, rfl, ?_⟩
      rw [zk5 hx, hno]
      have : ¬ a ≤ z[i].hi := by omega
      simp [this]
    · rw [w3]
      refine ⟨z.length - (i + 1), by omega, i + 1, by simp, by omega, rfl, ?_⟩
      rw [zk5 hx, hno]
      have : ¬ z[i].lo ≤ a := by simpa using hg
      simp [this]
  · have FF := fI @a0 (fI @a1 (fI @a3 (fI zAV.eq_1 @hlt))); refine zB ?_; clear FF
    have : i = z.length := by omega
    rw [this, List.take_length] at hno
    exact hno
def zw9 (z : List Rg) : Int := (z.map fun r => r.hi - r.lo + 1).sum
end Go.Proofs.YtpboabpapgimoaaGreat.Av.Zn
namespace Go.Proofs.YtpboabpapgimoaaGreat.Av.Zn
open Go
set_option linter.unusedSimpArgs false
set_option linter.unusedVariables false
set_option maxRecDepth 100000
set_option pp.maxSteps 300
theorem isNaN_calls (k : IntKind) (a : Int) : PCalls Tryz.prog 91 [.raw (.int k a)] (.raw (.bool false)) := by
  refine zE Tryz.func91 rfl (N := 6) rfl rfl (by simp) (by simp [noIds]) fun σ => ?_
  exact zgQ
def cmpI (a b : Int) : Int := if a < b then -1 else if b < a then 1 else 0
theorem compare_calls (k : IntKind) (a b : Int) : PCalls Tryz.prog 65 [.raw (.int k a), .raw (.int k b)] (.raw (.int .i64 (cmpI a b))) := by
  refine zE Tryz.func65 rfl (N := 20) rfl rfl (by simp) (by simp [noIds]) fun σ => ?_
  refine za0 ?_
  refine PCalls.use (isNaN_calls k a) ?_
  refine za0 ?_
  refine PCalls.use (isNaN_calls k b) ?_
  (try ((first | with_reducible refine zs ?_ | with_reducible refine zx ?_ | with_reducible refine zy ?_); simp [cmpI])); repeat' (first | ((first | refine zm ?_ | refine zl ?_ | refine dN (by decide +kernel) ?_ | (refine zb ?_ ?_ <;> (intro hg; simp only [hg])) | fail) <;> simp [cmpI]) | refine zf ?_ | refine zg ?_ | (refine zF ?_; simp only [zG]; try simp) | ((first | refine zq (by simp) ?_ | refine zu (by simp) (by simp) (by simp (maxDischargeDepth := 30) [cmpI]) ?_ | fail); simp) | (refine zd (fun hc => ?_) (fun hc => ?_) <;> try simp at hc) | fail)
  all_goals (unfold cmpI; (repeat' split) <;> omega)
def firstGe (c : Rg → Int) (z : List Rg) : Nat := z.findIdx fun r => decide (0 ≤ c r)
theorem cmpI_neg {a b : Int} : cmpI a b < 0 ↔ a < b := by unfold cmpI; (repeat' split) <;> omega
end Go.Proofs.YtpboabpapgimoaaGreat.Av.Zn
namespace Go.Proofs.YtpboabpapgimoaaGreat.Av.Zn
open Go
set_option linter.unusedSimpArgs false
set_option linter.unusedVariables false
set_option maxRecDepth 100000
set_option pp.maxSteps 300
structure But (i : Id) (σ τ : St) : Prop where
  m : ∀ l o, l ≠ i → σ.m l = some o → τ.m l = some o
  nx : ∀ s, σ.nx s ≤ τ.nx s
theorem zjJ {f : FuncId} {caps : List AV} {i : Id} {c0 : Ob} {z : List Rg} (hit : zj8 Tryz.prog f caps i c0 (z.map zp)) (hl : z.length < 2 ^ 40) {σ : St} (hi : σ.m i = some c0) :
    ACalls Tryz.prog 108 [.sl 0 [] true, .fn (.func f) [] caps] σ fun r τ => But i σ τ ∧ ((z = [] ∧ r = .sl 0 [] true) ∨ (z ≠ [] ∧ ∃ j, r = .rs j 0 z.length ∧ j.sz = 2 ∧ τ.m j = some (.buf (z.map zp)) ∧ σ.m j = none)) := by
  refine zaZ Tryz.func108 rfl (N := 13) rfl rfl (by simp) ?_
  refine za0 ?_
  refine zfW (f := f) (caps := caps) (by simp) fun b lo L hlo hL => ?_
  have hLn : L.nonce = (σ.new 2 1 (.buf [.sl 0 [] true])).nx 0 := by rw [hL]
  generalize hv : (⟨2, σ.nx 2, 1⟩ : Id) = v at *
  have hσv : (σ.new 2 1 (.buf [.sl 0 [] true])).m v = some (.buf [.sl 0 [] true]) := by rw [← hv]; simp
  have hvn : σ.m v = none := by rw [← hv]; exact zc _ _ _
  generalize hσ1 : σ.new 2 1 (.buf [.sl 0 [] true]) = σ1 at *
  have hE1 : Ext σ σ1 := by rw [← hσ1]; exact Ext.new _ _ _ _
  have hLm : σ1.m L = none := by rw [hL]; exact zc _ _ _
  have hσL : (σ1.new 0 0 (lo .ready none)).m L = some (lo .ready none) := by rw [hL]; simp
  have hE2 : Ext σ1 (σ1.new 0 0 (lo .ready none)) := Ext.new _ _ _ _
  generalize hσ2 : σ1.new 0 0 (lo .ready none) = σ2 at *
  have hvL : v ≠ L := fun e => by rw [e, hLm] at hσv; cases hσv
  have hiv : i ≠ v := fun e => by rw [e, hvn] at hi; cases hi
  have hiL : i ≠ L := fun e => by have := hE1.m i c0 hi; rw [e, hLm] at this; cases this
  let I : Nat → St → Prop := fun k τ => But i σ τ ∧ τ.m L = some (lo .ready none) ∧ ((k = 0 ∧ τ.m v = some (.buf [.sl 0 [] true])) ∨ (0 < k ∧ ∃ j, τ.m v = some (.buf [.rs j 0 k]) ∧ τ.m j = some (.buf ((z.take k).map zp)) ∧ j.sz = 2 ∧ σ.m j = none ∧ j ≠ v ∧ j ≠ L ∧ j ≠ i))
  have h0 : I 0 σ2 := ⟨⟨fun l o _ h => hE2.m l o (hE1.m l o h), fun s => Nat.le_trans (hE1.nx s) (hE2.nx s)⟩, hσL, .inl ⟨rfl, hE2.m _ _ hσv⟩⟩
  refine (hit b I (fun _ => False) ?_ ?_ ?_ σ2 (hE2.m _ _ (hE1.m _ _ hi)) h0).mono ?_
  · rintro k τ τ' ⟨h1, h2, h3⟩ hE
    refine ⟨⟨fun l o hl h => hE.m l o (h1.m l o hl h), fun s => Nat.le_trans (h1.nx s) (hE.nx s)⟩, hE.m _ _ h2, ?_⟩
    rcases h3 with ⟨h3, h4⟩ | ⟨h3, j, h4, h5, h6⟩
    · exact .inl ⟨h3, hE.m _ _ h4⟩
    · exact .inr ⟨h3, j, hE.m _ _ h4, hE.m _ _ h5, h6⟩
  · rintro k τ c ⟨h1, h2, h3⟩ hne
    refine ⟨⟨fun l o hl h => by rw [zH hl]; exact h1.m l o hl h, h1.nx⟩, by rw [zH (Ne.symm hiL)]; exact h2, ?_⟩
    rcases h3 with ⟨h3, h4⟩ | ⟨h3, j, h4, h5, h6, h7, h8, h9, h10⟩
    · exact .inl ⟨h3, by rw [zH (Ne.symm hiv)]; exact h4⟩
    · exact .inr ⟨h3, j, by rw [zH (Ne.symm hiv)]; exact h4, by rw [zH h10]; exact h5, h6, h7, h8, h9, h10⟩
  · rintro k x τ c hx ⟨h1, h2, h3⟩ hc
    obtain ⟨r, hr, rfl⟩ : ∃ r, z[k]? = some r ∧ x = zp r := by
      rw [List.getElem?_map] at hx
      cases hz : z[k]? with
      | none => rw [hz] at hx; cases hx
      | some r => rw [hz] at hx; injection hx with hx; exact ⟨r, rfl, hx.symm⟩
    have hkz := (List.getElem?_eq_some_iff.1 hr).1
    refine YK.of h2 hlo rfl ?_
    clear hlo hit
    have FF := fI zp.eq_1 @h2; refine zB ?_; clear FF
    have f1 : τ.m ⟨5, τ.nx 5, 2⟩ = none := zc _ _ _
    have hrL : (⟨5, τ.nx 5, 2⟩ : Id) ≠ L := fun e => by rw [e, h2] at f1; cases f1
    generalize hs3 : ((τ.new 5 2 (.buf [.agg [.raw (.int .u32 r.lo), .raw (.int .u32 r.hi)]])).set L (lo .busy none)) = s3
    have hr3 : s3.m ⟨5, τ.nx 5, 2⟩ = some (.buf [zp r]) := by rw [← hs3, zH hrL]; simp [zp]
    have hL3 : s3.m L = some (lo .busy none) := by rw [← hs3]; simp [h2]
    have hold3 : ∀ l o, l ≠ L → τ.m l = some o → s3.m l = some o := fun l o hl h => by rw [← hs3, zH hl]; exact zaz _ _ h
    have hnx3 : ∀ s, τ.nx s ≤ s3.nx s := fun s => by rw [← hs3]; exact St.new_le τ 5 2 (.buf [.agg [.raw (.int .u32 r.lo), .raw (.int .u32 r.hi)]]) s
    generalize (⟨5, τ.nx 5, 2⟩ : Id) = r5 at *
    have hc3 : s3.m i = some c := hold3 _ _ hiL hc
    have fin : ∀ (k : Nat) (s5 : St) (j : Id), s5.m v ≠ none → s5.m L = some (lo .busy none) → s5.m i = some c → But i σ s5 → s5.m j = some (.buf ((z.take (k + 1)).map zp)) → j.sz = 2 → σ.m j = none → j ≠ v → j ≠ L → j ≠ i →
        (s5.set v (.buf [.rs j 0 (k + 1)])).m L = some (lo .busy none) ∧ I (k + 1) ((s5.set v (.buf [.rs j 0 (k + 1)])).set L (lo .ready none)) ∧ ((s5.set v (.buf [.rs j 0 (k + 1)])).set L (lo .ready none)).m i = some c := by
      intro k s5 j g1 g2 g3 g4 g5 g6 g7 g8 g9 g10
      obtain ⟨ov, hov⟩ := Option.ne_none_iff_exists'.1 g1
      have e1 : (s5.set v (.buf [.rs j 0 (k + 1)])).m L = some (lo .busy none) := by rw [zH (Ne.symm hvL)]; exact g2
      refine ⟨e1, ⟨⟨fun l o hl ho => ?_, g4.nx⟩, ?_, .inr ⟨by omega, j, ?_, ?_, g6, g7, g8, g9, g10⟩⟩, ?_⟩
      · have h2 : l ≠ L := fun e => by rw [e] at ho; rw [hE1.m _ _ ho] at hLm; cases hLm
        have h3 : l ≠ v := fun e => by rw [e, hvn] at ho; cases ho
        rw [zH h2, zH h3]; exact g4.m l o hl ho
      · simp [e1]
      · rw [zH hvL]; simp [hov]
      · rw [zH g9, zH g8]; exact g5
      · rw [zH hiL, zH hiv]; exact g3
    have hB3 : But i σ s3 := ⟨fun l o hl ho => hold3 l o (fun e => by rw [e] at ho; rw [hE1.m _ _ ho] at hLm; cases hLm) (h1.m l o hl ho), fun s => Nat.le_trans (h1.nx s) (hnx3 s)⟩
    have htake : (z.take (k + 1)).map zp = (z.take k).map zp ++ [zp r] := by rw [List.take_add_one, hr]; simp
    rcases h3 with ⟨rfl, hv3⟩ | ⟨hk0, j, hv3, hj3, hjs, hjn, hjv, hjL, hji⟩
    · have hv3 := hold3 _ _ hvL hv3
      have FF := fI zp.eq_1 (fI @hr3 @hv3); refine zB ?_; clear FF
      generalize hs4 : s3.new 10 2 (.buf [.agg [.raw (.int .u32 r.lo), .raw (.int .u32 r.hi)]]) = s4
      have hE4 : Ext s3 s4 := by rw [← hs4]; exact Ext.new _ _ _ _
      have hf := zc s4 11 2
      have hE5 := Ext.new s4 11 2 (.buf [.agg [.raw (.int .u32 r.lo), .raw (.int .u32 r.hi)]])
      have ne : ∀ l o, s3.m l = some o → (⟨11, s4.nx 11, 2⟩ : Id) ≠ l := fun l o h e => by rw [e, hE4.m _ _ h] at hf; cases hf
      refine fin 0 _ _ ?_ (hE5.m _ _ (hE4.m _ _ hL3)) (hE5.m _ _ (hE4.m _ _ hc3)) ⟨fun l o hl ho => hE5.m _ _ (hE4.m _ _ (hB3.m l o hl ho)), fun s => Nat.le_trans (hB3.nx s) (Nat.le_trans (hE4.nx s) (hE5.nx s))⟩ ?_ rfl ?_ (ne _ _ hv3) (ne _ _ hL3) (ne _ _ hc3)
      · rw [hE5.m _ _ (hE4.m _ _ hv3)]; simp
      · rw [htake]; simp [zp]
      · cases h : σ.m ⟨11, s4.nx 11, 2⟩ with
        | none => rfl
        | some o => exact absurd rfl (ne _ o (hB3.m _ _ (fun e => ne _ _ hc3 e) h))
    · have hv3 := hold3 _ _ hvL hv3
      have hj3 := hold3 _ _ hjL hj3
      have hmin : min k z.length = k := by omega
      have hby : (k + 1) * 8 ≤ 140737488355328 := by omega
      have FF := fI zp.eq_1 (fI @hr3 (fI @hv3 (fI @hj3 (fI @hjs (fI @hmin (fI @hby (fI @hjv ((Ne.symm hjv))))))))); refine zB ?_; clear FF
      generalize hs4 : s3.new 10 2 (.buf [.agg [.raw (.int .u32 r.lo), .raw (.int .u32 r.hi)]]) = s4
      have hE4 : Ext s3 s4 := by rw [← hs4]; exact Ext.new _ _ _ _
      have hf := zc (s4.del j) 11 2
      generalize hes : (List.take k (List.map zp z) ++ [.agg [.raw (.int .u32 r.lo), .raw (.int .u32 r.hi)]]) = es
      have hE5 := Ext.new (s4.del j) 11 2 (.buf es)
      have old : ∀ l o, l ≠ j → s3.m l = some o → (s4.del j).m l = some o := fun l o hl h => by rw [zU hl]; exact hE4.m _ _ h
      have ne : ∀ l o, l ≠ j → s3.m l = some o → (⟨11, s4.nx 11, 2⟩ : Id) ≠ l := fun l o hl h e => by
        have := old l o hl h
        rw [← e] at this
        rw [show (⟨11, s4.nx 11, 2⟩ : Id) = ⟨11, (s4.del j).nx 11, 2⟩ from rfl, hf] at this
        cases this
      refine fin k _ _ ?_ (hE5.m _ _ (old _ _ (Ne.symm hjL) hL3)) (hE5.m _ _ (old _ _ (Ne.symm hji) hc3)) ⟨fun l o hl ho => hE5.m _ _ (old _ _ (fun e => by rw [e, hjn] at ho; cases ho) (hB3.m l o hl ho)), fun s => Nat.le_trans (hB3.nx s) (Nat.le_trans (hE4.nx s) (hE5.nx s))⟩ ?_ rfl ?_ (ne _ _ (Ne.symm hjv) hv3) (ne _ _ (Ne.symm hjL) hL3) (ne _ _ (Ne.symm hji) hc3)
      · rw [hE5.m _ _ (old _ _ (Ne.symm hjv) hv3)]; simp
      · rw [htake, List.map_take]; simp only [zp]; rw [← hes]
        exact zdJ
      · cases h : σ.m ⟨11, s4.nx 11, 2⟩ with
        | none => rfl
        | some o => exact absurd rfl (ne _ o (fun e => by rw [e, hjn] at h; cases h) (hB3.m _ _ (fun e => ne _ _ (Ne.symm hji) hc3 e) h))
  · rintro _ τ (⟨h1, h2, h3⟩ | h)
    · refine ⟨_, _, h2, by simp, fun _ => ?_, fun c h => by cases h⟩
      have hvd : ∀ x, τ.m v = some x → (τ.del L).m v = some x := fun x h => by rw [zU hvL]; exact h
      have hB : But i σ (τ.del L) := ⟨fun l o hl ho => by
        rw [zU fun e => by rw [e] at ho; rw [hE1.m _ _ ho] at hLm; cases hLm]
        exact h1.m l o hl ho, h1.nx⟩
      rw [List.length_map] at h3
      rcases h3 with ⟨hk0, hv3⟩ | ⟨hk0, j, hv3, hj3, hjs, hjn, hjv, hjL, hji⟩
      · have hv3 := hvd _ hv3
        have FF := @hv3; refine zB ?_; clear FF
        refine zY (x := .sl 0 [] true) (.inr rfl) (by simp) ⟨hB, .inl ⟨List.length_eq_zero_iff.1 hk0, rfl⟩⟩
      · have hv3 := hvd _ hv3
        have FF := @hv3; refine zB ?_; clear FF
        refine zY (x := .rs j 0 z.length) (.inr rfl) (by simp) ⟨hB, .inr ⟨fun e => by simp [e] at hk0, j, rfl, hjs, ?_, hjn⟩⟩
        rw [zU hjL, hj3, List.take_length]
    · exact h.elim
end Go.Proofs.YtpboabpapgimoaaGreat.Av.Zn
namespace Go.Proofs.YtpboabpapgimoaaGreat.Av.Zn
open Go
set_option linter.unusedSimpArgs false
set_option linter.unusedVariables false
set_option maxRecDepth 100000
theorem zmv {z : List Rg} {full : Bool} {b : Nat} {i : Id} {I : Nat → St → Prop} {J : St → Prop} (hz : z.length < 2 ^ 60)
    (hI : ∀ k σ τ, I k σ → Ext σ τ → I k τ)
    (hY : ∀ k σ (h : k < z.length), I k σ → YK Tryz.prog b [zp z[k]] σ fun r τ => (r = .raw (.bool true) ∧ I (k + 1) τ) ∨ (r = .raw (.bool false) ∧ J τ))
    {σ : St} (hi : σ.m i = some (.buf [zAV z full])) (h0 : I 0 σ) :
    ACalls Tryz.prog 90 [.fn (.yield b) [] [], .rp i 0 0] σ fun _ τ => I z.length τ ∨ J τ := by
  refine zaZ Tryz.func90 rfl (N := 16) rfl rfl (by simp) ?_
  refine zf ?_
  refine zl ?_
  simp [hi, zAV]
  refine zg ?_
  refine zaM (fun n A τ => ∃ k : Nat, A 0 = .fn (.yield b) [] [] ∧ A 5 = zAV z full ∧ A 6 = .raw (.int .i64 z.length) ∧ A 7 = .raw (.int .i64 k) ∧ k ≤ z.length ∧ n = z.length - k ∧ I k τ) z.length ?_ ?_
  · exact ⟨0, by simp [zAV], by simp [zAV], by simp, by simp, by omega, by omega, h0⟩
  rintro n A τ ⟨k, a0, a5, a6, a7, hk, rfl, hIk⟩
  refine zf ?_
  refine zl ?_
  simp [a0, a5, a6, a7]
  refine zf ?_
  refine zcQ ?_
  simp
  constructor
  · intro hlt
    refine zen ?_
    simp
    refine zf ?_
    refine zg ?_
    refine zf ?_
    have hx : z[k]? = some z[k] := List.getElem?_eq_getElem (by omega)
    refine zl ?_
    simp [a0, a5, a6, a7, zAV, hx, zp]
    refine zf ?_
    refine zl ?_
    simp [a0, a5, a6, a7, zAV, hx, zp]
    refine YK.mono ?_ (hY k _ hlt (hI _ _ _ hIk (by rw [zdq]; exact Ext.new _ _ _ _)))
    rintro r τ' (⟨rfl, h⟩ | ⟨rfl, h⟩)
    · simp [a0]
      refine zcQ ?_
      simp
      refine zen ?_
      simp
      refine zl ?_
      simp [a0, a5, a6, a7]
      refine ⟨z.length - (k + 1), by omega, k + 1, ?_, by omega, rfl, h⟩
      rw [zo (by omega) (by omega)]; simp
    · simp [a0]
      refine zcQ ?_
      simp
      refine zfd ?_
      simp
      exact zY (x := .tup []) (.inr rfl) (by simp) (.inr h)
  · intro hge
    refine zgC ?_
    simp
    have : k = z.length := by omega
    subst this
    exact zY (x := .tup []) (.inl rfl) (by simp) (.inl hIk)
end Go.Proofs.YtpboabpapgimoaaGreat.Av.Zn
namespace Go.Proofs.YtpboabpapgimoaaGreat.Av.Zn
set_option linter.unusedSimpArgs false
set_option linter.unusedVariables false
def MZ (z : List Rg) (a : Int) : Prop := ∃ r ∈ z, r.lo ≤ a ∧ a ≤ r.hi
theorem mz_nil {a : Int} : ¬ MZ [] a := fun ⟨_, h, _⟩ => by cases h
theorem mz_cons {r : Rg} {z : List Rg} {a : Int} : MZ (r :: z) a ↔ (r.lo ≤ a ∧ a ≤ r.hi) ∨ MZ z a := by
  constructor
  · rintro ⟨s, h, k⟩
    rcases List.mem_cons.1 h with rfl | h
    · exact .inl k
    · exact .inr ⟨s, h, k⟩
  · rintro (h | ⟨s, h, k⟩)
    · exact ⟨r, by simp, h⟩
    · exact ⟨s, by simp [h], k⟩
theorem hasB_iff {z : List Rg} {a : Int} : hasB z a = true ↔ MZ z a := by
  unfold hasB MZ
  rw [List.any_eq_true]
  simp
def RZ : Int → List Rg → Prop
  | _, [] => True
  | b, r :: z => b < r.lo ∧ r.lo ≤ r.hi ∧ RZ (r.hi + 1) z
theorem RZ.gt : ∀ {z : List Rg} {b a : Int}, RZ b z → MZ z a → b < a
  | [], _, _, _, h => absurd h mz_nil
  | r :: z, b, a, k, h => by
    rcases mz_cons.1 h with h | h
    · have := k.1; omega
    · have := RZ.gt k.2.2 h; have := k.1; have := k.2.1; omega
theorem RZ.ext : ∀ {x y : List Rg} {b c : Int}, RZ b x → RZ c y → (∀ a, MZ x a ↔ MZ y a) → x = y
  | [], [], _, _, _, _, _ => rfl
  | [], s :: y, _, _, _, k, h => absurd ((h s.lo).2 (mz_cons.2 (.inl ⟨Int.le_refl _, k.2.1⟩))) mz_nil
  | r :: x, [], _, _, k, _, h => absurd ((h r.lo).1 (mz_cons.2 (.inl ⟨Int.le_refl _, k.2.1⟩))) mz_nil
  | r :: x, s :: y, b, c, k, l, h => by
    obtain ⟨k1, k2, k3⟩ := k
    obtain ⟨l1, l2, l3⟩ := l
    have gx : ∀ {a}, MZ x a → r.hi + 1 < a := fun h => RZ.gt k3 h
    have gy : ∀ {a}, MZ y a → s.hi + 1 < a := fun h => RZ.gt l3 h
    have hlo : r.lo = s.lo := by
      have h1 := (h r.lo).1 (mz_cons.2 (.inl ⟨Int.le_refl _, k2⟩))
      have h2 := (h s.lo).2 (mz_cons.2 (.inl ⟨Int.le_refl _, l2⟩))
      rcases mz_cons.1 h1 with h1 | h1 <;> rcases mz_cons.1 h2 with h2 | h2
      · omega
      · have := gx h2; omega
      · have := gy h1; omega
      · have := gx h2; have := gy h1; omega
    have hhi : r.hi = s.hi := by
      rcases Int.lt_trichotomy r.hi s.hi with hl | hl | hl
      · have h1 := (h (r.hi + 1)).2 (mz_cons.2 (.inl ⟨by omega, by omega⟩))
        rcases mz_cons.1 h1 with h1 | h1
        · omega
        · have := gx h1; omega
      · exact hl
      · have h1 := (h (s.hi + 1)).1 (mz_cons.2 (.inl ⟨by omega, by omega⟩))
        rcases mz_cons.1 h1 with h1 | h1
        · omega
        · have := gy h1; omega
    have he : r = s := Rg.ext hlo hhi
    subst he
    congr 1
    refine RZ.ext k3 l3 fun a => ⟨fun ha => ?_, fun ha => ?_⟩
    · rcases mz_cons.1 ((h a).1 (mz_cons.2 (.inr ha))) with h1 | h1
      · have := gx ha; omega
      · exact h1
    · rcases mz_cons.1 ((h a).2 (mz_cons.2 (.inr ha))) with h1 | h1
      · have := gy ha; omega
      · exact h1
theorem RZ.at : ∀ {z : List Rg} {b : Int}, RZ b z → ∀ i r, z[i]? = some r → b < r.lo ∧ r.lo ≤ r.hi ∧ ∀ s, z[i + 1]? = some s → r.hi + 1 < s.lo
  | [], _, _, _, _, h => by simp at h
  | r :: z, b, k, 0, s, h => by
    simp at h; subst h
    refine ⟨k.1, k.2.1, fun s hs => ?_⟩
    cases z with
    | nil => simp at hs
    | cons t z => simp at hs; subst hs; exact k.2.2.1
  | r :: z, b, k, i + 1, s, h => by
    have := RZ.at k.2.2 i s (by simpa using h)
    refine ⟨by have := k.1; have := k.2.1; omega, this.2.1, fun t ht => this.2.2 t (by simpa using ht)⟩
def mg : Rg → List Rg → List Rg
  | r, [] => [r]
  | r, x :: l => if x.lo ≤ r.hi + 1 then mg ⟨r.lo, max r.hi x.hi⟩ l else r :: mg x l
def zbH : List Rg → List Rg
  | [] => []
  | r :: l => mg r l
theorem zkm : ∀ (l : List Rg) (r : Rg) (b : Int), b < r.lo → r.lo ≤ r.hi → (∀ x ∈ l, r.lo ≤ x.lo) → (∀ x ∈ l, x.lo ≤ x.hi) → l.Pairwise (fun x y => x.lo ≤ y.lo) →
    RZ b (mg r l) ∧ ∀ a, MZ (mg r l) a ↔ (r.lo ≤ a ∧ a ≤ r.hi) ∨ MZ l a
  | [], r, b, h1, h2, _, _, _ => ⟨⟨h1, h2, trivial⟩, fun a => mz_cons⟩
  | x :: l, r, b, h1, h2, h3, h4, h5 => by
    have hx := h3 x (by simp)
    have hxo := h4 x (by simp)
    rw [List.pairwise_cons] at h5
    unfold mg
    split
    · rename_i hle
      obtain ⟨q1, q2⟩ := zkm l ⟨r.lo, max r.hi x.hi⟩ b h1 (by simp only []; omega) (fun y hy => h3 y (by simp [hy])) (fun y hy => h4 y (by simp [hy])) h5.2
      refine ⟨q1, fun a => ?_⟩
      rw [q2, mz_cons]
      simp only []
      constructor
      · rintro (h | h)
        · by_cases a ≤ r.hi
          · exact .inl ⟨h.1, by assumption⟩
          · exact .inr (.inl ⟨by omega, by omega⟩)
        · exact .inr (.inr h)
      · rintro (h | h | h)
        · exact .inl ⟨h.1, by omega⟩
        · exact .inl ⟨by omega, by omega⟩
        · exact .inr h
    · rename_i hle
      obtain ⟨q1, q2⟩ := zkm l x (r.hi + 1) (by omega) hxo (fun y hy => h5.1 y hy) (fun y hy => h4 y (by simp [hy])) h5.2
      refine ⟨⟨h1, h2, q1⟩, fun a => ?_⟩
      rw [mz_cons, q2, mz_cons]
theorem zob : ∀ (l : List Rg) (r : Rg), r.In → InZ l → InZ (mg r l)
  | [], r, h, _ => by intro s hs; simp [mg] at hs; subst hs; exact h
  | x :: l, r, h, k => by
    have hx := k x (by simp)
    unfold mg
    split
    · refine zob l _ ⟨h.1, h.2.1, ?_, ?_⟩ fun y hy => k y (by simp [hy])
      · have := h.2.2.1; simp only []; omega
      · have := h.2.2.2; have := hx.2.2.2; simp only []; omega
    · intro s hs
      rcases List.mem_cons.1 hs with rfl | hs
      · exact h
      · exact zob l x hx (fun y hy => k y (by simp [hy])) s hs
theorem zjK : ∀ (l : List Rg) (r : Rg), (mg r l).length ≤ l.length + 1
  | [], r => by simp [mg]
  | x :: l, r => by
    unfold mg
    split
    · have := zjK l ⟨r.lo, max r.hi x.hi⟩; simp; omega
    · have := zjK l x; simp; omega
theorem znd {l : List Rg} (hl : InZ l) (ho : ∀ x ∈ l, x.lo ≤ x.hi) (hs : l.Pairwise fun x y => x.lo ≤ y.lo) : RZ (-1) (zbH l) ∧ (∀ a, MZ (zbH l) a ↔ MZ l a) ∧ InZ (zbH l) ∧ (zbH l).length ≤ l.length := by
  cases l with
  | nil => exact ⟨trivial, fun a => Iff.rfl, (fun r h => by cases h), Nat.le_refl _⟩
  | cons r l =>
    rw [List.pairwise_cons] at hs
    obtain ⟨q1, q2⟩ := zkm l r (-1) (by have := (hl r (by simp)).1; omega) (ho r (by simp)) hs.1 (fun x hx => ho x (by simp [hx])) hs.2
    exact ⟨q1, fun a => by rw [mz_cons]; exact q2 a, zob l r (hl r (by simp)) fun x hx => hl x (by simp [hx]), by simpa [zbH] using zjK l r⟩
def zry : List Rg → List Rg → List Rg
  | r :: x, s :: y => (if max r.lo s.lo ≤ min r.hi s.hi then [⟨max r.lo s.lo, min r.hi s.hi⟩] else []) ++ if r.hi < s.hi then zry x (s :: y) else zry (r :: x) y
  | _, _ => []
termination_by x y => x.length + y.length
def zur : Int → List Rg → List Rg
  | b, [] => if b ≤ 4294967295 then [⟨b, 4294967295⟩] else []
  | b, r :: z => (if b < r.lo then [⟨b, r.lo - 1⟩] else []) ++ zur (r.hi + 1) z
end Go.Proofs.YtpboabpapgimoaaGreat.Av.Zn
namespace Go.Proofs.YtpboabpapgimoaaGreat.Av
open Go
set_option linter.unusedSimpArgs false
set_option linter.unusedVariables false
set_option maxRecDepth 100000
set_option maxHeartbeats 4000000
set_option pp.maxSteps 600
def firstGe (c : Ru → Int) (z : List Ru) : Nat := z.findIdx fun r => decide (0 ≤ c r)
theorem cmpI_neg {a b : Int} : cmpI a b < 0 ↔ a < b := by unfold cmpI; (repeat' split) <;> omega
def zmw (z : List Ru) (id : Int) : Nat := firstGe (fun r => cmpI r.id id) z
def zzA (z : List Ru) (id : Int) : Bool := match z[zmw z id]? with | some r => decide (r.id = id) | none => false
def ru0 : Ru := ⟨0, 0, 0, 0, ⟨0, 0⟩, 0⟩
end Go.Proofs.YtpboabpapgimoaaGreat.Av
namespace Go.Proofs.YtpboabpapgimoaaGreat.Av
open Go
set_option linter.unusedSimpArgs false
set_option linter.unusedVariables false
set_option maxRecDepth 100000
set_option maxHeartbeats 4000000
set_option pp.maxSteps 600
def zrz (L : Lab) (T : Option Tab) (d : Nat) : List Int := (List.range (T.getD zW).b.sz.toNat).map fun i : Nat => ((L.rows[d]?).bind fun r => r[(ofT L.t ((zgU T i).getD ⟨0, 0⟩).lo).toNat]?).getD 0
end Go.Proofs.YtpboabpapgimoaaGreat.Av
namespace Go.Proofs.YtpboabpapgimoaaGreat.Av
open Go
set_option linter.unusedSimpArgs false
set_option linter.unusedVariables false
set_option maxRecDepth 100000
set_option maxHeartbeats 4000000
set_option pp.maxSteps 600
def zqA (L : Lab) (n : Nw) (T : Option Tab) (dev : Int) (d : Nat) : List Int := if (d : Int) = dev then zrw n T d else zrz L T d
def zqB (L : Lab) (n : Nw) (T : Option Tab) (dev : Int) : Lab := ⟨n, T, (List.range n.t.ports.length).map (zqA L n T dev)⟩
end Go.Proofs.YtpboabpapgimoaaGreat.Av
namespace Go.Proofs.YtpboabpapgimoaaGreat.Av
open Go
set_option linter.unusedSimpArgs false
set_option linter.unusedVariables false
end Go.Proofs.YtpboabpapgimoaaGreat.Av
namespace Go.Proofs.YtpboabpapgimoaaGreat.Av
open Go
set_option linter.unusedSimpArgs false
set_option linter.unusedVariables false
def zer (n : Nw) : List Rg := n.rules.map (·.r)
def zus (n : Nw) (d : Nat) : List Int := (zaE (zaF (zer n))).map fun r => atI n d r.lo
structure LabRep (L : Lab) (n : Nw) : Prop where
  net : L.n = n
  ok : NwOK n
  right : zax n = true
  rep : TabRep (L.t.getD zW) (zer n)
  rows : L.rows = (List.range n.t.ports.length).map (zus n)
end Go.Proofs.YtpboabpapgimoaaGreat.Av
namespace Go.Proofs.YtpboabpapgimoaaGreat.Av
open Go
set_option linter.unusedSimpArgs false
set_option linter.unusedVariables false
set_option maxRecDepth 100000
set_option maxHeartbeats 4000000
set_option pp.maxSteps 600
def zut (n : Nw) (id : Int) : Nw := ⟨n.t, n.rules.eraseIdx (zmw n.rules id)⟩
def zrA (n : Nw) (id : Int) : Ru := (n.rules[zmw n.rules id]?).getD ru0
def zxa (L : Lab) (n : Nw) (id : Int) : Lab := zqB L (zut n id) (zta L.t (zrA n id).r).1 (zrA n id).dev
end Go.Proofs.YtpboabpapgimoaaGreat.Av
namespace Go.Proofs.YtpboabpapgimoaaGreat.Av
open Go
set_option linter.unusedSimpArgs false
set_option linter.unusedVariables false
set_option maxRecDepth 100000
set_option maxHeartbeats 4000000
set_option pp.maxSteps 600
theorem zoc : zax zcU = true := by decide +kernel
end Go.Proofs.YtpboabpapgimoaaGreat.Av
namespace Go.Proofs.YtpboabpapgimoaaGreat.Av
open Go
set_option linter.unusedSimpArgs false
set_option linter.unusedVariables false
set_option maxRecDepth 100000
set_option maxHeartbeats 4000000
set_option pp.maxSteps 600
def zzB : AV := .agg [.sl 0 [] true, .sl 0 [] true, .sl 0 [] true]
end Go.Proofs.YtpboabpapgimoaaGreat.Av
