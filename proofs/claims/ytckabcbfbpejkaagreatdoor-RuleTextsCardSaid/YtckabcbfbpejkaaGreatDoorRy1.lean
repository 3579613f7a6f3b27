/- Rules: the laws RuleTexts, RuleMatches. Part 1 of 22: AvCore. -/
import Derived.WalkKit
import Derived.ControlIn
import Derived.CallsIn
namespace Go.Proofs.YtckabcbfbpejkaaGreatDoor.Av
set_option linter.unusedSimpArgs false
set_option linter.unusedVariables false
open Go
structure Id where
  slot : Nat
  nonce : Nat
  sz : Nat
deriving DecidableEq
inductive AV where
  | raw (v : Value)
  | agg (cs : List AV)
  | tup (vs : List AV)
  | pp (row : List AV) (off : Nat)
  | rp (i : Id) (k off : Nat)
  | sl (sz : Nat) (es : List AV) (full : Bool)
  | rs (i : Id) (off len : Nat)
  | fn (f : Fn) (first caps : List AV)
  | mp (i : Id)
  | ifc (t : TypeId) (a : AV)
  | any
deriving Inhabited
inductive Ob where
  | buf (es : List AV)
  | map (ents : List (Value × AV))
  | loop (b : Nat) (ps : Array Tmp) (assign body : Code) (n : Nat) (A : Nat → AV) (st : LoopState) (pd : Option Code)
  | bufx (es : List AV)
def AV.cells : AV → List AV
  | .agg cs => cs
  | v => [v]
structure Ctx where
  w : World
  mu : Id → Nat
  O : Nat → Prop
  K : Id → Prop
  lim : Nat
def Ctx.frozen (S : Ctx) (b : Nat) : Prop := b < S.w.heap.size ∧ ¬ S.O b
def cellsOf (w : World) (b : Nat) : Nat := ((w.shape? b).map (·.2)).getD 0
mutual
def VRel (S : Ctx) : AV → Value → Prop
  | .raw v, x => x = v
  | .agg cs, x => ∃ l : Array Value, x = .agg l ∧ LRel S cs l.toList
  | .tup vs, x => ∃ l : Array Value, x = .tuple l ∧ LRel S vs l.toList
  | .pp row off, x => ∃ b o, x = .pointer (some ⟨b, o + off, none⟩) ∧ S.frozen b ∧ CRel S row b o
  | .rp i k off, x => x = .pointer (some ⟨S.mu i, k * i.sz + off, none⟩) ∧ S.K i
  | .sl sz es full, x => ∃ base cap, x = .slice base es.length cap ∧ es.length ≤ cap ∧ (full = true → cap = es.length) ∧ (es ≠ [] → ∃ b o, base = some ⟨b, o, none⟩ ∧ S.frozen b ∧ ERel S sz es b o)
  | .rs i off len, x => ∃ cap, x = .slice (some ⟨S.mu i, off * i.sz, none⟩) len cap ∧ len ≤ cap ∧ (off + cap) * i.sz = cellsOf S.w (S.mu i) ∧ S.mu i < S.w.heap.size ∧ S.K i
  | .fn f first caps, x => ∃ l m : Array Value, x = .func f l m ∧ LRel S first l.toList ∧ LRel S caps m.toList
  | .mp i, x => x = .map (some (S.mu i)) ∧ S.K i
  | .ifc t a, x => ∃ v, x = .iface t v ∧ VRel S a v
  | .any, _ => True
def LRel (S : Ctx) : List AV → List Value → Prop
  | [], l => l = []
  | a :: as, l => ∃ v vs, l = v :: vs ∧ VRel S a v ∧ LRel S as vs
def CRel (S : Ctx) : List AV → Nat → Nat → Prop
  | [], _, _ => True
  | a :: as, b, o => (∃ v, S.w.cell? ⟨b, o, none⟩ = some v ∧ VRel S a v) ∧ CRel S as b (o + 1)
def ERel (S : Ctx) (sz : Nat) : List AV → Nat → Nat → Prop
  | [], _, _ => True
  | .agg cs :: es, b, o => cs.length = sz ∧ CRel S cs b o ∧ ERel S sz es b (o + sz)
  | .raw x :: es, b, o => sz = 1 ∧ (∃ v, S.w.cell? ⟨b, o, none⟩ = some v ∧ VRel S (.raw x) v) ∧ ERel S sz es b (o + sz)
  | .tup x :: es, b, o => sz = 1 ∧ (∃ v, S.w.cell? ⟨b, o, none⟩ = some v ∧ VRel S (.tup x) v) ∧ ERel S sz es b (o + sz)
  | .pp x y :: es, b, o => sz = 1 ∧ (∃ v, S.w.cell? ⟨b, o, none⟩ = some v ∧ VRel S (.pp x y) v) ∧ ERel S sz es b (o + sz)
  | .rp x y z :: es, b, o => sz = 1 ∧ (∃ v, S.w.cell? ⟨b, o, none⟩ = some v ∧ VRel S (.rp x y z) v) ∧ ERel S sz es b (o + sz)
  | .sl x y z :: es, b, o => sz = 1 ∧ (∃ v, S.w.cell? ⟨b, o, none⟩ = some v ∧ VRel S (.sl x y z) v) ∧ ERel S sz es b (o + sz)
  | .rs x y z :: es, b, o => sz = 1 ∧ (∃ v, S.w.cell? ⟨b, o, none⟩ = some v ∧ VRel S (.rs x y z) v) ∧ ERel S sz es b (o + sz)
  | .fn x y z :: es, b, o => sz = 1 ∧ (∃ v, S.w.cell? ⟨b, o, none⟩ = some v ∧ VRel S (.fn x y z) v) ∧ ERel S sz es b (o + sz)
  | .mp x :: es, b, o => sz = 1 ∧ (∃ v, S.w.cell? ⟨b, o, none⟩ = some v ∧ VRel S (.mp x) v) ∧ ERel S sz es b (o + sz)
  | .ifc x y :: es, b, o => sz = 1 ∧ (∃ v, S.w.cell? ⟨b, o, none⟩ = some v ∧ VRel S (.ifc x y) v) ∧ ERel S sz es b (o + sz)
  | .any :: es, b, o => sz = 1 ∧ (∃ v, S.w.cell? ⟨b, o, none⟩ = some v ∧ VRel S .any v) ∧ ERel S sz es b (o + sz)
end
theorem zaO (S : Ctx) (sz : Nat) (e : AV) (es : List AV) (b o : Nat) :
    ERel S sz (e :: es) b o ↔ e.cells.length = sz ∧ CRel S e.cells b o ∧ ERel S sz es b (o + sz) := by
  cases e <;> simp [ERel, CRel, AV.cells, eq_comm]
def zjo (w w' : World) : Prop := w'.os = w.os ∧ w'.tape = w.tape ∧ w'.output = w.output
structure Ev (S S' : Ctx) : Prop where
  size : S.w.heap.size ≤ S'.w.heap.size
  heap : ∀ b, b < S.w.heap.size → ¬ S.O b → S'.w.heap[b]? = S.w.heap[b]?
  O : ∀ b, b < S.w.heap.size → S'.O b → S.O b
  mu : ∀ i, S.K i → S'.mu i = S.mu i ∧ S'.K i
  cells : ∀ b, b < S.w.heap.size → cellsOf S'.w b = cellsOf S.w b
  lim : S'.lim = S.lim
  io : zjo S.w S'.w
theorem Ev.refl (S : Ctx) : Ev S S := ⟨Nat.le_refl _, fun _ _ _ => rfl, fun _ _ h => h, fun _ h => ⟨rfl, h⟩, fun _ _ => rfl, rfl, rfl, rfl, rfl⟩
theorem Ev.trans {A B C : Ctx} (h : Ev A B) (k : Ev B C) : Ev A C where
  size := Nat.le_trans h.size k.size
  heap := fun b hb hO => (k.heap b (Nat.lt_of_lt_of_le hb h.size) (fun x => hO (h.O b hb x))).trans (h.heap b hb hO)
  O := fun b hb hO => h.O b hb (k.O b (Nat.lt_of_lt_of_le hb h.size) hO)
  mu := fun i hi => ⟨(k.mu i (h.mu i hi).2).1.trans (h.mu i hi).1, (k.mu i (h.mu i hi).2).2⟩
  cells := fun b hb => (k.cells b (Nat.lt_of_lt_of_le hb h.size)).trans (h.cells b hb)
  lim := k.lim.trans h.lim
  io := ⟨k.io.1.trans h.io.1, k.io.2.1.trans h.io.2.1, k.io.2.2.trans h.io.2.2⟩
theorem Ev.frozen {S S' : Ctx} (h : Ev S S') {b : Nat} (hb : S.frozen b) : S'.frozen b :=
  ⟨Nat.lt_of_lt_of_le hb.1 h.size, fun x => hb.2 (h.O b hb.1 x)⟩
theorem Ev.cell {S S' : Ctx} (h : Ev S S') {b o : Nat} (hb : S.frozen b) : S'.w.cell? ⟨b, o, none⟩ = S.w.cell? ⟨b, o, none⟩ :=
  World.cell?_of_block (h.heap b hb.1 hb.2)
structure Sub (S S' : Ctx) : Prop where
  fro : ∀ b, S.frozen b → S'.frozen b
  cell : ∀ b o, S.frozen b → S'.w.cell? ⟨b, o, none⟩ = S.w.cell? ⟨b, o, none⟩
  mu : ∀ i, S.K i → S'.mu i = S.mu i ∧ S'.K i
  size : S.w.heap.size ≤ S'.w.heap.size
  cells : ∀ b, b < S.w.heap.size → cellsOf S'.w b = cellsOf S.w b
theorem Ev.sub {S S' : Ctx} (h : Ev S S') : Sub S S' := ⟨fun _ => h.frozen, fun _ _ hb => h.cell hb, h.mu, h.size, h.cells⟩
mutual
theorem VRel.mono {S S' : Ctx} (h : Sub S S') : ∀ (a : AV) (v : Value), VRel S a v → VRel S' a v
  | .raw _, _, hv => by simpa only [VRel] using hv
  | .agg cs, _, hv => by
    simp only [VRel] at hv ⊢
    obtain ⟨l, e, hl⟩ := hv
    exact ⟨l, e, LRel.mono h cs _ hl⟩
  | .tup cs, _, hv => by
    simp only [VRel] at hv ⊢
    obtain ⟨l, e, hl⟩ := hv
    exact ⟨l, e, LRel.mono h cs _ hl⟩
  | .pp row off, _, hv => by
    simp only [VRel] at hv ⊢
    obtain ⟨b, o, e, hb, hr⟩ := hv
    exact ⟨b, o, e, h.fro b hb, CRel.mono h (fun x => h.cell b x hb) row _ hr⟩
  | .rp i k off, _, hv => by
    simp only [VRel] at hv ⊢
    obtain ⟨e, hk⟩ := hv
    rw [(h.mu i hk).1]
    exact ⟨e, (h.mu i hk).2⟩
  | .sl sz es full, _, hv => by
    simp only [VRel] at hv ⊢
    obtain ⟨base, cap, e, h1, h2, h3⟩ := hv
    refine ⟨base, cap, e, h1, h2, fun hne => ?_⟩
    obtain ⟨b, o, eb, hb, hr⟩ := h3 hne
    exact ⟨b, o, eb, h.fro b hb, ERel.mono h (fun x => h.cell b x hb) es _ hr⟩
  | .rs i off len, _, hv => by
    simp only [VRel] at hv ⊢
    obtain ⟨cap, e, h1, h2, h3, hk⟩ := hv
    rw [(h.mu i hk).1]
    exact ⟨cap, e, h1, by rw [h2, h.cells _ h3], Nat.lt_of_lt_of_le h3 h.size, (h.mu i hk).2⟩
  | .fn f first caps, _, hv => by
    simp only [VRel] at hv ⊢
    obtain ⟨l, m, e, h1, h2⟩ := hv
    exact ⟨l, m, e, LRel.mono h first _ h1, LRel.mono h caps _ h2⟩
  | .mp i, _, hv => by
    simp only [VRel] at hv ⊢
    obtain ⟨e, hk⟩ := hv
    rw [(h.mu i hk).1]
    exact ⟨e, (h.mu i hk).2⟩
  | .ifc t a, _, hv => by
    simp only [VRel] at hv ⊢
    obtain ⟨v, e, hk⟩ := hv
    exact ⟨v, e, VRel.mono h a _ hk⟩
  | .any, _, _ => by simp only [VRel]
theorem LRel.mono {S S' : Ctx} (h : Sub S S') : ∀ (as : List AV) (vs : List Value), LRel S as vs → LRel S' as vs
  | [], _, hv => by simpa only [LRel] using hv
  | a :: as, _, hv => by
    simp only [LRel] at hv ⊢
    obtain ⟨v, vs, e, h1, h2⟩ := hv
    exact ⟨v, vs, e, VRel.mono h a _ h1, LRel.mono h as _ h2⟩
theorem CRel.mono {S S' : Ctx} (h : Sub S S') {b : Nat} (hb : ∀ o, S'.w.cell? ⟨b, o, none⟩ = S.w.cell? ⟨b, o, none⟩) : ∀ (as : List AV) (o : Nat), CRel S as b o → CRel S' as b o
  | [], _, _ => by simp only [CRel]
  | a :: as, o, hv => by
    simp only [CRel] at hv ⊢
    obtain ⟨⟨v, e, h1⟩, h2⟩ := hv
    exact ⟨⟨v, by rw [hb]; exact e, VRel.mono h a _ h1⟩, CRel.mono h hb as _ h2⟩
theorem ERel.mono {S S' : Ctx} (h : Sub S S') {b sz : Nat} (hb : ∀ o, S'.w.cell? ⟨b, o, none⟩ = S.w.cell? ⟨b, o, none⟩) : ∀ (es : List AV) (o : Nat), ERel S sz es b o → ERel S' sz es b o
  | [], _, _ => by simp only [ERel]
  | .agg cs :: es, o, hv => by
    simp only [ERel] at hv ⊢
    exact ⟨hv.1, CRel.mono h hb cs _ hv.2.1, ERel.mono h hb es _ hv.2.2⟩
  | .raw x :: es, o, hv => by
    simp only [ERel] at hv ⊢
    obtain ⟨h0, ⟨v, e, h1⟩, h2⟩ := hv
    exact ⟨h0, ⟨v, by rw [hb]; exact e, VRel.mono h (.raw x) _ h1⟩, ERel.mono h hb es _ h2⟩
  | .tup x :: es, o, hv => by
    simp only [ERel] at hv ⊢
    obtain ⟨h0, ⟨v, e, h1⟩, h2⟩ := hv
    exact ⟨h0, ⟨v, by rw [hb]; exact e, VRel.mono h (.tup x) _ h1⟩, ERel.mono h hb es _ h2⟩
  | .pp x y :: es, o, hv => by
    simp only [ERel] at hv ⊢
    obtain ⟨h0, ⟨v, e, h1⟩, h2⟩ := hv
    exact ⟨h0, ⟨v, by rw [hb]; exact e, VRel.mono h (.pp x y) _ h1⟩, ERel.mono h hb es _ h2⟩
  | .rp x y z :: es, o, hv => by
    simp only [ERel] at hv ⊢
    obtain ⟨h0, ⟨v, e, h1⟩, h2⟩ := hv
    exact ⟨h0, ⟨v, by rw [hb]; exact e, VRel.mono h (.rp x y z) _ h1⟩, ERel.mono h hb es _ h2⟩
  | .sl x y z :: es, o, hv => by
    simp only [ERel] at hv ⊢
    obtain ⟨h0, ⟨v, e, h1⟩, h2⟩ := hv
    exact ⟨h0, ⟨v, by rw [hb]; exact e, VRel.mono h (.sl x y z) _ h1⟩, ERel.mono h hb es _ h2⟩
  | .rs x y z :: es, o, hv => by
    simp only [ERel] at hv ⊢
    obtain ⟨h0, ⟨v, e, h1⟩, h2⟩ := hv
    exact ⟨h0, ⟨v, by rw [hb]; exact e, VRel.mono h (.rs x y z) _ h1⟩, ERel.mono h hb es _ h2⟩
  | .fn x y z :: es, o, hv => by
    simp only [ERel] at hv ⊢
    obtain ⟨h0, ⟨v, e, h1⟩, h2⟩ := hv
    exact ⟨h0, ⟨v, by rw [hb]; exact e, VRel.mono h (.fn x y z) _ h1⟩, ERel.mono h hb es _ h2⟩
  | .mp x :: es, o, hv => by
    simp only [ERel] at hv ⊢
    obtain ⟨h0, ⟨v, e, h1⟩, h2⟩ := hv
    exact ⟨h0, ⟨v, by rw [hb]; exact e, VRel.mono h (.mp x) _ h1⟩, ERel.mono h hb es _ h2⟩
  | .ifc x y :: es, o, hv => by
    simp only [ERel] at hv ⊢
    obtain ⟨h0, ⟨v, e, h1⟩, h2⟩ := hv
    exact ⟨h0, ⟨v, by rw [hb]; exact e, VRel.mono h (.ifc x y) _ h1⟩, ERel.mono h hb es _ h2⟩
  | .any :: es, o, hv => by
    simp only [ERel] at hv ⊢
    obtain ⟨h0, ⟨v, e, h1⟩, h2⟩ := hv
    exact ⟨h0, ⟨v, by rw [hb]; exact e, VRel.mono h .any _ h1⟩, ERel.mono h hb es _ h2⟩
end
end Go.Proofs.YtckabcbfbpejkaaGreatDoor.Av
