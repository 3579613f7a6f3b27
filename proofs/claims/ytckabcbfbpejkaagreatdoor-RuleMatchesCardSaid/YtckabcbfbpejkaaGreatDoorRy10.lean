/- Rules: the laws RuleTexts, RuleMatches. Part 10 of 22: AvLib. -/
import Derived.Test.YtckabcbfbpejkaaGreatDoorRy8
import Derived.Below
namespace Go.Proofs.YtckabcbfbpejkaaGreatDoor.Av
open Go Go.RowKit
set_option linter.unusedSimpArgs false
set_option linter.unusedVariables false
section
variable {P : Program}
theorem zg8 {S : Ctx} {w' : World} (h : Below S.w.heap.size S.w w') : Ev S (S.lay w') where
  size := h.size
  heap := fun b hb _ => h.block b hb
  O := fun b _ h => h.1
  mu := fun j hj => ⟨rfl, hj⟩
  cells := fun b hb => zbQ (h.block b hb)
  lim := rfl
  io := ⟨h.os, h.tape, h.output⟩
theorem zmO {σ : St} {S : Ctx} (hS : SRel σ S) {w' : World} (h : Below S.w.heap.size S.w w') : SRel σ (S.lay w') :=
  ⟨hS.kn, fun i o hi => by
    obtain ⟨h1, h2, h3, h4⟩ := hS.live i o hi
    exact ⟨h1, Nat.lt_of_lt_of_le h2 h.size, ⟨h3, h2⟩, OBRel.mono (zg8 h) h1 (h.block _ h2) h4⟩, hS.inj, hS.gl.ev (zg8 h)⟩
theorem zlZ {S : Ctx} {w' : World} {b : Nat} (h1 : S.w.heap.size ≤ b) (h2 : b < w'.heap.size) : (S.lay w').frozen b := ⟨h2, fun h => by have := h.2; omega⟩
theorem zcO {f : FuncId} {args : List AV} {r : AV} (he : zfM P f) (hr : noIds r)
    (h : ∀ S vs, GlobOK S → LRel S args vs → Calls P f vs.toArray S.w fun e w' => ∃ v, e = .returned v ∧ Below S.w.heap.size S.w w' ∧ VRel (S.lay w') r v) : PCalls P f args r :=
  ⟨hr, fun σ => ⟨he, fun S vs hS hl => (callsIn_wide.2 (h S vs hS.gl hl)).mono fun e w' ⟨v, h1, h2, h3⟩ => ⟨S.lay w', σ, r, v, h1, rfl, zg8 h2, zmO hS h2, h3, rfl, rfl⟩⟩⟩
theorem ERel.raws {S : Ctx} {b : Nat} : ∀ {vs : List Value} {o : Nat}, (∀ j v, vs[j]? = some v → S.w.cell? ⟨b, o + j, none⟩ = some v) → ERel S 1 (vs.map .raw) b o
  | [], o, _ => by simp [ERel]
  | v :: vs, o, h => by
    simp only [List.map_cons, ERel]
    refine ⟨trivial, ⟨v, by simpa using h 0 v rfl, by simp [VRel]⟩, ERel.raws fun j u hj => ?_⟩
    have := h (j + 1) u (by simpa using hj)
    rwa [show o + 1 + j = o + (j + 1) by omega]
end
end Go.Proofs.YtckabcbfbpejkaaGreatDoor.Av
