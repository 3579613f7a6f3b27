/- Rules: the laws RuleTexts, RuleMatches. Part 16 of 22: AvRd3. -/
import Derived.Test.YtckabcbfbpejkaaGreatDoorRy15
import Derived.Test.YtckabcbfbpejkaaGreatDoorRows
import Derived.LaidMore
import Derived.LaidByTextLater
import Derived.Stop.Joined
namespace Go.Proofs.YtckabcbfbpejkaaGreatDoor.Av
open Go Go.RowKit Go.ChangeShapes Go.WideShapes
set_option linter.unusedSimpArgs false
set_option linter.unusedVariables false
set_option maxRecDepth 100000
theorem zmS : ∀ b, b < zhc → (((begin Tryz.prog (fun _ _ => 0) default).world.heap[b]?).bind Obj.row?).isSome = true := by decide +kernel
theorem zkX {W : World} (sh : W.ShapedOpen Tryz.prog) {b : Nat} (hb : b < zhc) : ∃ cs t, W.heap[b]? = some (.cells cs t) := by
  obtain ⟨⟨z, t⟩, h⟩ := Option.isSome_iff_exists.1 (zmS b hb)
  have hg : zhc ≤ Tryz.prog.globals.size := by decide +kernel
  obtain ⟨cs, h1, _⟩ := sh.1 b z t (by omega) h
  exact ⟨cs, t, h1⟩
theorem zof : (((begin Tryz.prog (fun _ _ => 0) default).world.heap[1]?).bind Obj.row?).map (·.2) = some 3 := by decide +kernel
theorem znB {W : World} (sh : W.ShapedOpen Tryz.prog) : ∃ cs t m, W.heap[1]? = some (.cells cs t) ∧ cs[0]? = some (.int .i64 m) := by
  obtain ⟨⟨z, t⟩, h, ht⟩ := Option.map_eq_some_iff.1 zof
  simp only at ht
  subst ht
  obtain ⟨cs, h1, hsz, h2⟩ := sh.1 1 z 3 (by decide +kernel) h
  have hz : z.size = 1 := by
    have e : (((begin Tryz.prog (fun _ _ => 0) default).world.heap[1]?).bind Obj.row?).map (·.1.size) = some 1 := by decide +kernel
    rw [h] at e
    simpa using e
  obtain ⟨ts, q1, ⟨n, q2⟩, q3⟩ := h2 (by decide +kernel)
  have e2 : Tryz.prog.cellTypes Tryz.prog.depth 3 = some [3] := by decide +kernel
  obtain rfl := Option.some.inj (e2.symm.trans q1)
  have hlt : 0 < cs.size := by omega
  obtain ⟨u, r1, r2⟩ := q3 0 cs[0] (Array.getElem?_eq_getElem hlt)
  simp at r1
  subst r1
  have hu : Tryz.prog.underlying 3 = some (.int .i64) := by kernel_rfl
  unfold Cell.ok at r2
  rw [hu] at r2
  obtain ⟨v, hv⟩ : ∃ v, cs[0] = v := ⟨_, rfl⟩
  rw [hv] at r2
  cases v <;> simp at r2
  rename_i k m
  obtain ⟨rfl, _⟩ := r2
  exact ⟨cs, _, m, h1, by rw [Array.getElem?_eq_getElem hlt, hv]⟩
theorem zhY {enc : TypeId × Value → Unit} {W : World} {sp : Nat → Bool} {fuel : Nat} {t : TypeId} {ms : Array (String × TypeId)} {cs : List Value} {x : DataW Unit × List MemPlace} (ht : Tryz.prog.underlying t = some (.interface ms))
    (h : DataW.trod enc Tryz.prog W 0 sp false fuel t cs = some x) : ∃ ev, cs[0]? = some ev ∧ (ev = .nilIface ∨ ∃ te pe, ev = .iface te pe) := by
  cases fuel with
  | zero => simp [DataW.trod] at h
  | succ fuel =>
    unfold DataW.trod at h
    rw [ht] at h
    split at h <;> rename_i e <;> first | (cases e; done) | skip
    all_goals first
      | (exact ⟨_, rfl, .inl rfl⟩)
      | (exact ⟨_, rfl, .inr ⟨_, _, rfl⟩⟩)
      | (simp at e; done)
      | cases h
def zfi : List (String × DataW Unit) := [("math/bits.deBruijn32tab", Rows.laid_math_bits_deBruijn32tab), ("math/bits.deBruijn64tab", Rows.laid_math_bits_deBruijn64tab), ("internal/strconv.uint64pow10", Rows.laid_internal_strconv_uint64pow10), ("unicode/utf8.acceptRanges", Rows.laid_unicode_utf8_acceptRanges), ("strconv.ErrRange", Rows.laid_strconv_ErrRange), ("strconv.ErrSyntax", Rows.laid_strconv_ErrSyntax), ("unicode/utf8.first", Rows.laid_unicode_utf8_first)]
theorem zdE {W : World} {g : Nat} {cs c : Array Value} {t : TypeId} (h : ∀ i, W.cell? ⟨g, i, none⟩ = cs[i]?) (hc : W.heap[g]? = some (.cells c t)) : c = cs := by
  apply Array.ext_getElem?
  intro i
  rw [← h i]
  simp [World.cell?, hc]
theorem zog {W : World} (sh : W.ShapedOpen Tryz.prog) (h : laidMet Tryz.prog zfi W) : GlobOK (zch W) := by
  obtain ⟨ps, ⟨_, _, _, _, _, _, _, _, _, _, ⟨g1, t1, c1, f1, p1, q1, hg1, ht1, hv1, hd1, ⟨g2, t2, c2, f2, p2, q2, hg2, ht2, hv2, hd2, ⟨_, _, _, _, _, _, _, _, _, _, ⟨g4, t4, c4, f4, p4, q4, hg4, ht4, hv4, hd4, ⟨g5, t5, c5, f5, p5, q5, hg5, ht5, hv5, hd5, _, _⟩, _⟩, _⟩, _⟩, _⟩, _⟩, _⟩ := h
  obtain rfl := Option.some.inj ((show Tryz.prog.globalNamed "math/bits.deBruijn64tab" = some 7 by kernel_rfl).symm.trans hg1)
  obtain rfl := Option.some.inj ((show Tryz.prog.globalNamed "internal/strconv.uint64pow10" = some 0 by kernel_rfl).symm.trans hg2)
  obtain rfl := Option.some.inj ((show Tryz.prog.globalNamed "strconv.ErrRange" = some 3 by kernel_rfl).symm.trans hg4)
  obtain rfl := Option.some.inj ((show Tryz.prog.globalNamed "strconv.ErrSyntax" = some 2 by kernel_rfl).symm.trans hg5)
  obtain rfl := Option.some.inj ((show (Tryz.prog.globals[7]?).map (·.type) = some 150 by kernel_rfl).symm.trans ht1)
  obtain rfl := Option.some.inj ((show (Tryz.prog.globals[0]?).map (·.type) = some 128 by kernel_rfl).symm.trans ht2)
  obtain rfl := Option.some.inj ((show (Tryz.prog.globals[3]?).map (·.type) = some 75 by kernel_rfl).symm.trans ht4)
  obtain rfl := Option.some.inj ((show (Tryz.prog.globals[2]?).map (·.type) = some 75 by kernel_rfl).symm.trans ht5)
  have u1 : Tryz.prog.underlying 150 = some (.array 64 5) := by kernel_rfl
  have u2 : Tryz.prog.underlying 128 = some (.array 20 109) := by kernel_rfl
  have u3 : Tryz.prog.underlying 5 = some (.int .u8) := by kernel_rfl
  have u4 : Tryz.prog.underlying 109 = some (.int .u64) := by kernel_rfl
  obtain ⟨ms, u5⟩ : ∃ ms, Tryz.prog.underlying 75 = some (.interface ms) := zeu (P := Tryz.prog) (by kernel_rfl)
  have d1 : c1.toList = (Lib.deBruijn64tab.map fun n : Nat => (n : Int)).map fun z => Value.int .u8 z := Lib.cells_of_tab u1 u3 (by kernel_rfl) (by kernel_rfl) hd1
  have d2 : c2.toList = Lib.pow10Tab.map fun z => Value.int .u64 z := Lib.cells_of_tab u2 u4 (by kernel_rfl) (by kernel_rfl) hd2
  have d4 := zhY u5 hd4
  have d5 := zhY u5 hd5
  have w1 := World.var?_cell hg1 hv1
  have w2 := World.var?_cell hg2 hv2
  have w4 := World.var?_cell hg4 hv4
  have w5 := World.var?_cell hg5 hv5
  obtain ⟨cm, tm, m, hm1, hm2⟩ := znB sh
  intro b hb
  obtain ⟨cs, t, hcs⟩ := zkX sh hb
  refine ⟨⟨?_, fun x => x⟩, cs, t, _, hcs, ?_, ?_, ?_, ?_⟩
  · exact (Array.getElem?_eq_some_iff.1 hcs).1
  · rintro rfl
    rw [hm1] at hcs
    simp only [Option.some.injEq, Obj.cells.injEq] at hcs
    rw [← hcs.1]
    exact ⟨m, hm2⟩
  · rintro rfl
    rw [zdE w2 hcs, ← d2]
  · rintro rfl j hj
    rw [zdE w1 hcs, ← Array.getElem?_toList, d1]
    simp [List.getD, hj]
  · rintro (rfl | rfl)
    · rw [zdE w5 hcs]
      simpa using d5
    · rw [zdE w4 hcs]
      simpa using d4
theorem zf2 {C : Checked} {os : Os} {f : FuncId} {fn : Func} {s : ChangeSpec} {conds : List PathCond} {H : Type} {enc : TypeId × Value → H} {tb : TypeId} {b : Bool} {T : Type} {els : T → List AV} {ok : T → Prop} {ps : List TypeId} {laid : List (String × DataW Unit)}
    (own : ownKnob C.prog.godebug = none) (started : os.Started) (noInit : C.prog.inits.idxOf? f = none) (hfn : C.prog.funcs[f]? = some fn)
    (witness : ∃ (w : World) (tape : Tape) (i : Input), w.os = os ∧ (w.forCall tape i).Shaped C.prog ∧ i.vars = [] ∧ Input.okWide C.prog (w.forCall tape i) .any w.heap.size f i ∧
      ((s.pre enc C.prog fn conds false (w.forCall tape i).memory i.args ∧ laidMetH C.prog laid (w.forCall tape i).memory) ∧ sizedMet enc C.prog fn (OpenSpec.ofChange s) false (w.forCall tape i).memory i.args) ∧ ({} : Assume).holds C.prog (lone (Frame.enter C.prog f i.args .normal) [] (w.forCall tape i)))
    (hlo : laidOutB C.prog = true) (hv : s.vars = []) (hps : fn.params.toList = ps) (hr : ∀ t ∈ ps, C.prog.readableRec t = true ∧ t < C.prog.types.size)
    (hrt : fn.resultTypes = #[tb]) (htb : C.prog.underlying tb = some .bool)
    (hspec : ∀ ds : List (DataW H), ds.length = ps.length → s.fn H ds = { results := [.lit (.bool b)], args := ds })
    (rd : RdA C.prog ps T els ok) (calls : ∀ v, ok v → PCalls C.prog f (els v) (.raw (.bool b))) (gl : ∀ W, W.ShapedOpen C.prog → laidMetH C.prog laid W → GlobOK (zch W)) :
    ReturnsInHanded {} C os f .any (fun w args => (s.pre enc C.prog fn conds false w args ∧ laidMetH C.prog laid w) ∧ sizedMet enc C.prog fn (OpenSpec.ofChange s) false w args) (s.post enc C.prog fn false true false false) := by
  subst hps
  refine returnsInHanded_of_calls own started noInit witness ?_
  intro w tape i _ hsh _ hok hpre _
  obtain ⟨_, _, _, fn', hfn', _, _, _, _, hval⟩ := hok
  have e : fn' = fn := Option.some.inj (hfn'.symm.trans hfn)
  subst e
  obtain ⟨⟨⟨ds, gs, before, hw, hc⟩, hx⟩, hz⟩ := hpre
  have hW := DataW.Whole.of_heap (w' := w.forCall tape i) (by rfl) hw
  have hwt : (DataW.weightsEach C.prog (fn'.params.toList ++ s.plain.varTypes C.prog) (ds ++ gs)).all (· ≤ reachBytes) = true := hz.weights hw
  have hL : laidMetH C.prog laid (w.forCall tape i) := hx.of_heap (by rfl)
  obtain ⟨p, q, hA, hV, e, hfz, hnd⟩ := id hW
  rw [hv] at hV
  obtain ⟨rfl, rfl⟩ := trodVars_none hV
  have hwt' : ∀ n ∈ DataW.weightsEach C.prog fn'.params.toList ds, n ≤ reachBytes := by
    have e2 : s.plain.varTypes C.prog = [] := by simp [DataSpec.varTypes, ChangeSpec.plain, hv]
    rw [e2, List.append_nil, List.append_nil] at hwt
    simpa [List.all_eq_true] using hwt
  obtain ⟨v, v1, v2⟩ := rd.rd enc _ w.heap.size _ _ _ hA (fun j t v hj hvj => hval j t v (by simpa using hj) (by simpa using hvj)) hwt'
  refine (zkf (calls v v1) (gl _ hsh hL) v2).mono fun e W' ⟨he, hb⟩ => ?_
  subst he
  exact ChangeSpec.post_blind (ziW hlo hv hr hrt htb (fun ds hd => hspec ds (by simpa using hd)) hW hb)
end Go.Proofs.YtckabcbfbpejkaaGreatDoor.Av
