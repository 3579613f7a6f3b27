/- Rules: the laws RuleTexts, RuleMatches. Part 15 of 22: AvRd2. -/
import Derived.Test.YtckabcbfbpejkaaGreatDoorRy13
import Derived.OpenShut
namespace Go.Proofs.YtckabcbfbpejkaaGreatDoor.Av
open Go Go.RowKit Go.ChangeShapes Go.WideShapes
set_option linter.unusedSimpArgs false
set_option linter.unusedVariables false
theorem zmR {P : Program} {t e : TypeId} {A : Type} {el : A → AV} {ok : A → Prop} {c : Nat} (ht : P.underlying t = some (.array 2 e)) (h : Rds P e A el ok) (hc : P.cellsOf e = c) (hn : P.cellsOf t = 2 * c) :
    Rds P t (A × A) (fun p => .agg ((el p.1).cells ++ (el p.2).cells)) (fun p => ok p.1 ∧ ok p.2) := Rds.mk <| fun enc W fuel cs x hx hw => by
  obtain ⟨xs, m, rfl, rfl, hl, hlen, hf⟩ := DataW.trod_array ht hx
  simp only [DataW.weights, ht] at hw
  match xs, hlen with
  | [x0, x1], _ =>
    simp only [List.map_cons, List.map_nil, DataW.weightsAll, List.append_nil, List.mem_append] at hw
    have h0 := hf 0 (by omega)
    have h1 := hf 1 (by omega)
    simp only [List.getElem?_cons_zero, List.getElem?_cons_succ, Nat.zero_mul, Nat.one_mul, List.drop_zero] at h0 h1
    obtain ⟨v, v1, v2⟩ := h.rd enc W m _ x0 h0 fun n hn => hw n (.inl hn)
    obtain ⟨u, u1, u2⟩ := h.rd enc W m _ x1 h1 fun n hn => hw n (.inr hn)
    refine ⟨(v, u), ⟨v1, u1⟩, ?_⟩
    have e1 : cs = cs.take (P.cellsOf e) ++ (cs.drop (P.cellsOf e)).take (P.cellsOf e) := by
      rw [List.take_of_length_le (l := cs.drop (P.cellsOf e)) (by rw [List.length_drop, hl, hn, hc]; omega), List.take_append_drop]
    rw [e1]
    simp only [AV.cells]
    exact LRel.append v2 u2
theorem zkW {P : Program} {t : TypeId} {n : Nat} {e : TypeId} {T : Type} {el : T → AV} {g : T → List AV} (ht : P.underlying t = some (.array n e)) (he : ∀ a, el a = .agg (g a)) : zcn P t el := fun W base S v a hv h => by
  rw [he] at h ⊢
  have : ∃ l : Array Value, v = .agg l := by
    simp only [Value.okWide, ht] at hv
    cases v <;> simp_all
  obtain ⟨l, rfl⟩ := this
  exact ⟨l, rfl, by simpa [AV.cells, Value.cells] using h⟩
end Go.Proofs.YtckabcbfbpejkaaGreatDoor.Av
