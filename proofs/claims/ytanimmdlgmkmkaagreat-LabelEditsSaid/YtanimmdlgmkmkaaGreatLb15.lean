/- Labels: LabelBack, LabelEdits. Part 15 of 17: AvL18, AvL25, AvL19, AvL26. -/
import Derived.Test.YtanimmdlgmkmkaaGreatLb8
import Derived.Test.YtanimmdlgmkmkaaGreatLb11
import Derived.Test.YtanimmdlgmkmkaaGreatLb13
namespace Go.Proofs.YtanimmdlgmkmkaaGreat.Av
open Go
set_option linter.unusedSimpArgs false
set_option linter.unusedVariables false
set_option maxRecDepth 100000
set_option maxHeartbeats 4000000
set_option pp.maxSteps 600
def zcj (id : Int) (r : Ru) : Bool := decide (r.id = id)
def zc8 (l : List Ru) (id : Int) : Option Ru := l.find? (zcj id)
theorem zab : (zE ru0).cells = [.raw (.int .i64 0), .raw (.int .i64 0), .raw (.int .i64 0), .raw (.int .i64 0), .raw (.int .u32 0), .raw (.int .u32 0), .raw (.int .i64 0)] := rfl
theorem zaM (r s : Ru) : setPart (zE r) 0 [.raw (.int .i64 s.id), .raw (.int .i64 s.dev), .raw (.int .i64 s.prio), .raw (.int .i64 s.kind), .raw (.int .u32 s.r.lo), .raw (.int .u32 s.r.hi), .raw (.int .i64 s.port)] = zE s := rfl
theorem zjH (r : Ru) : setPart (zE r) 0 [.raw (.int .i64 0), .raw (.int .i64 0), .raw (.int .i64 0), .raw (.int .i64 0), .raw (.int .u32 0), .raw (.int .u32 0), .raw (.int .i64 0)] = zE ru0 := rfl
theorem zer (l : List Ru) (f : Bool) (id : Int) (hl : l.length < 2 ^ 60) :
    PCalls Tryz.prog 41 [zu l f, .raw (.int .i64 id)] (.tup [zE ((zc8 l id).getD ru0), .raw (.bool (zc8 l id).isSome)]) := by
  refine zJ Tryz.func41 rfl (N := 25) rfl rfl (by simp) (by simp [noIds, zlh]) fun σ => ?_
  have f4 : σ.m ⟨4, σ.nx 4, 7⟩ = none := zk _ _ _
  (try ((first | with_reducible refine zh ?_ | with_reducible refine zm ?_ | with_reducible refine zo ?_); simp [-cellOK, zz, zB, ze, zd2, zab])); repeat' (first | ((first | refine zd ?_ | refine zg ?_ | refine dN (by decide +kernel) ?_ | refine dC (by decide +kernel) ?_ | (refine za ?_ ?_ <;> (intro hg; simp only [hg])) | fail) <;> simp [-cellOK, zz, zB, ze, zd2, zab]) | refine zf ?_ | refine zc ?_ | (refine zp ?_; simp only [zq]; try simp) | (refine zb (fun hc => ?_) (fun hc => ?_) <;> try simp at hc) | fail)
  refine zZ (fun n A τ => Ext σ τ ∧ A 0 = zu l f ∧ A 1 = .raw (.int .i64 id) ∧ A 4 = .rp ⟨4, σ.nx 4, 7⟩ 0 0 ∧ τ.m ⟨4, σ.nx 4, 7⟩ = some (.buf [zE ru0]) ∧ ∃ i : Nat, A 6 = .raw (.int .i64 i) ∧ i ≤ l.length ∧ n = l.length - i ∧ zc8 l id = zc8 (l.drop i) id) l.length ?_ ?_
  · exact ⟨(by repeat (first | assumption | exact Ext.refl _ | refine zv ?_ | refine Ext.setF ?_ (by first | assumption | (simp [ze, St.set, zk]; done) | exact zt (by assumption)))), by simp, by simp, by simp [zab], by simp [zz, zab], 0, by simp, by omega, by omega, by simp⟩
  generalize (⟨4, σ.nx 4, 7⟩ : Id) = i4 at *
  rintro n A τ ⟨hE, a0, a1, a4, m4, i, a6, hi, rfl, hf⟩ I1 hI1
  by_cases hlt : i < l.length
  · have hx : l[i]? = some l[i] := List.getElem?_eq_getElem hlt
    obtain ⟨r, hr⟩ : ∃ r, l[i] = r := ⟨_, rfl⟩
    rw [List.drop_eq_getElem_cons hlt, hr] at hf
    have w1 : IntKind.i64.wrap ((i : Int) + 1) = ((i + 1 : Nat) : Int) := by rw [zU (by omega) (by omega)]; omega
    by_cases he : r.id = id
    · have he' := eq_true he
      have e1 : zc8 l id = some r := by rw [hf]; simp [zc8, zcj, he]
      rw [e1]
      (try ((first | with_reducible refine zh ?_ | with_reducible refine zm ?_ | with_reducible refine zo ?_); simp [-cellOK, a0, a1, a4, a6, m4, zu, hlt, hx, hr, zab, zs, zA, he', zaM, zz, zB, ze])); repeat' (first | ((first | refine zd ?_ | refine zg ?_ | refine dN (by decide +kernel) ?_ | refine dC (by decide +kernel) ?_ | (refine za ?_ ?_ <;> (intro hg; simp only [hg])) | fail) <;> simp [-cellOK, a0, a1, a4, a6, m4, zu, hlt, hx, hr, zab, zs, zA, he', zaM, zz, zB, ze]) | refine zf ?_ | refine zc ?_ | (refine zp ?_; simp only [zq]; try simp) | (refine zl (by simp) ?_; simp) | (refine zD (by simp) (by simp [noIds]) (by repeat (first | assumption | exact Ext.refl _ | refine zv ?_ | refine Ext.setF ?_ (by first | assumption | (simp [ze, St.set, zk]; done) | exact zt (by assumption)))) ?_; simp [-cellOK, a0, a1, a4, a6, m4, zu, hlt, hx, hr, zab, zs, zA, he', zaM, zz, zB, ze, zS]) | (refine zb (fun hc => ?_) (fun hc => ?_) <;> try simp at hc) | fail)
    · have he' := eq_false he
      have e1 : zc8 l id = zc8 (l.drop (i + 1)) id := by rw [hf]; simp [zc8, zcj, he]
      (try ((first | with_reducible refine zh ?_ | with_reducible refine zm ?_ | with_reducible refine zo ?_); simp [-cellOK, a0, a1, a4, a6, m4, zu, hlt, hx, hr, zs, zA, he', w1])); repeat' (first | ((first | refine zd ?_ | refine zg ?_ | refine dN (by decide +kernel) ?_ | refine dC (by decide +kernel) ?_ | (refine za ?_ ?_ <;> (intro hg; simp only [hg])) | fail) <;> simp [-cellOK, a0, a1, a4, a6, m4, zu, hlt, hx, hr, zs, zA, he', w1]) | refine zf ?_ | refine zc ?_ | (refine zp ?_; simp only [zq]; try simp) | (refine zl (by simp) ?_; simp) | (refine zD (by simp) (by simp [noIds]) (by repeat (first | assumption | exact Ext.refl _ | refine zv ?_ | refine Ext.setF ?_ (by first | assumption | (simp [ze, St.set, zk]; done) | exact zt (by assumption)))) ?_; simp [-cellOK, a0, a1, a4, a6, m4, zu, hlt, hx, hr, zs, zA, he', w1, zS]) | (refine zb (fun hc => ?_) (fun hc => ?_) <;> try simp at hc) | fail)
      exact hI1 (l.length - (i + 1)) _ _ (by omega) ⟨hE, by simp [a0, zu], by simp [a1], by simp [a4], m4, i + 1, by simp, by omega, rfl, e1⟩
  · have e1 : zc8 l id = none := by rw [hf, List.drop_of_length_le (by omega)]; rfl
    rw [e1]
    (try ((first | with_reducible refine zh ?_ | with_reducible refine zm ?_ | with_reducible refine zo ?_); simp [-cellOK, a0, a1, a4, a6, m4, zu, hlt, zd2, zab, zjH, zz, zB, ze])); repeat' (first | ((first | refine zd ?_ | refine zg ?_ | refine dN (by decide +kernel) ?_ | refine dC (by decide +kernel) ?_ | (refine za ?_ ?_ <;> (intro hg; simp only [hg])) | fail) <;> simp [-cellOK, a0, a1, a4, a6, m4, zu, hlt, zd2, zab, zjH, zz, zB, ze]) | refine zf ?_ | refine zc ?_ | (refine zp ?_; simp only [zq]; try simp) | (refine zl (by simp) ?_; simp) | (refine zD (by simp) (by simp [noIds]) (by repeat (first | assumption | exact Ext.refl _ | refine zv ?_ | refine Ext.setF ?_ (by first | assumption | (simp [ze, St.set, zk]; done) | exact zt (by assumption)))) ?_; simp [-cellOK, a0, a1, a4, a6, m4, zu, hlt, zd2, zab, zjH, zz, zB, ze, zS]) | (refine zb (fun hc => ?_) (fun hc => ?_) <;> try simp at hc) | fail)
theorem zgq {l : List Ru} (hs : Srt l) (id : Int) : zc8 l id = if zaF l id = true then l[zW l id]? else none := by
  cases hh : zaF l id with
  | true =>
    rw [if_pos rfl]
    have hh2 := hh
    unfold zaF at hh2
    cases hx : l[zW l id]? with
    | none => rw [hx] at hh2; cases hh2
    | some r =>
      rw [hx] at hh2
      simp only [decide_eq_true_eq] at hh2
      unfold zc8
      rw [List.find?_eq_some_iff_append]
      obtain ⟨hl, hv⟩ := List.getElem?_eq_some_iff.1 hx
      refine ⟨by simp [zcj, hh2], l.take (zW l id), l.drop (zW l id + 1), ?_, fun a ha => ?_⟩
      · rw [← hv, ← List.drop_eq_getElem_cons hl, List.take_append_drop]
      · obtain ⟨k, hk, rfl⟩ := List.mem_take_iff_getElem.1 ha
        have hk' : k < zW l id := by omega
        have := zdq (List.getElem?_eq_getElem (l := l) (i := k) (by omega)) hk'
        simp [zcj]; omega
  | false =>
    rw [if_neg (by simp)]
    unfold zc8
    rw [List.find?_eq_none]
    intro x hx he
    simp only [zcj, decide_eq_true_eq] at he
    obtain ⟨k, hk, rfl⟩ := List.mem_iff_getElem.1 hx
    have hk' : l[k]? = some l[k] := List.getElem?_eq_getElem hk
    by_cases hp : zW l id ≤ k
    · have := zlv hs hh hk' hp; omega
    · have := zdq (id := id) hk' (by omega); omega
end Go.Proofs.YtanimmdlgmkmkaaGreat.Av
namespace Go.Proofs.YtanimmdlgmkmkaaGreat.Av
open Go
set_option linter.unusedSimpArgs false
set_option linter.unusedVariables false
set_option maxRecDepth 100000
set_option maxHeartbeats 4000000
set_option pp.maxSteps 600
def zbG (l : List Ru) (r : Ru) (i : Nat) : List Ru := if zW l r.id < i then l.take (zW l r.id) ++ r :: (l.take i).drop (zW l r.id) else l.take i
theorem zmj (l : List Ru) (r : Ru) : zbG l r 0 = [] := by simp [zbG]
theorem zoa {l : List Ru} {r : Ru} {i : Nat} {x : Ru} (hx : l[i]? = some x) (h : i < zW l r.id) : zbG l r (i + 1) = zbG l r i ++ [x] := by
  unfold zbG
  rw [if_neg (by omega), if_neg (by omega), List.take_add_one, hx]; rfl
theorem zob {l : List Ru} {r : Ru} {i : Nat} {x : Ru} (hx : l[i]? = some x) (h : i = zW l r.id) : zbG l r (i + 1) = zbG l r i ++ [r] ++ [x] := by
  unfold zbG
  obtain ⟨hl, -⟩ := List.getElem?_eq_some_iff.1 hx
  rw [if_pos (by omega), if_neg (by omega), List.take_add_one, hx, ← h]
  rw [List.drop_append_of_le_length (by simp; omega), List.drop_of_length_le (by rw [List.length_take]; omega)]
  simp
theorem zoc {l : List Ru} {r : Ru} {i : Nat} {x : Ru} (hx : l[i]? = some x) (h : zW l r.id < i) : zbG l r (i + 1) = zbG l r i ++ [x] := by
  unfold zbG
  obtain ⟨hl, -⟩ := List.getElem?_eq_some_iff.1 hx
  rw [if_pos (by omega), if_pos h, List.take_add_one, hx]
  rw [List.drop_append_of_le_length (by simp; omega)]
  simp
theorem zne (l : List Ru) (r : Ru) : (if zW l r.id < l.length then zbG l r l.length else zbG l r l.length ++ [r]) = zb8 l r := by
  have hp := zcG l r.id
  unfold zb8 zbG
  rw [List.take_length]
  by_cases h : zW l r.id < l.length
  · rw [if_pos h, if_pos h]
  · have e : zW l r.id = l.length := by omega
    rw [if_neg h, if_neg h, e]; simp
theorem znf (l : List Ru) (r : Ru) {i : Nat} (hi : i ≤ l.length) : (zbG l r i).length ≤ i + 1 := by
  have hp := zcG l r.id
  unfold zbG
  split <;> simp <;> omega
def zjb : AV := .agg [.sl 0 [] true, .sl 0 [] true, .sl 0 [] true]
def zjI (n : Nw) (f : Fl) (r : Ru) : AV := if zaF n.rules r.id = true then .tup [zjb, .raw (.int .i64 142)] else if zaq (zbl n r) = true then .tup [z7 (zbl n r) ⟨f.p, f.l, false⟩, .raw (.int .i64 0)] else .tup [zjb, .raw (.int .i64 71)]
theorem zht (n : Nw) (f : Fl) (r : Ru) (hn : NwOK n) (hR : zaq n = true) (hr : RuOK r) :
    PCalls Tryz.prog 38 [z7 n f, zE r] (zjI n f r) := by
  have hsrt := zcv hR
  have h40 := (zbe hR).2
  have hfind := zer n.rules f.r r.id (by omega)
  rw [zgq hsrt] at hfind
  have hok' := zlx hn h40 hr
  have hright := ze6 (zbl n r) ⟨f.p, f.l, false⟩ hok'
  unfold zjI zjb
  have hids : noIds (if zaF n.rules r.id = true then .tup [.agg [.sl 0 [] true, .sl 0 [] true, .sl 0 [] true], .raw (.int .i64 142)] else if zaq (zbl n r) = true then .tup [z7 (zbl n r) ⟨f.p, f.l, false⟩, .raw (.int .i64 0)] else .tup [.agg [.sl 0 [] true, .sl 0 [] true, .sl 0 [] true], .raw (.int .i64 71)]) := by
    split
    · simp [noIds]
    · split <;> simp [noIds]
  refine zJ Tryz.func38 rfl (N := 71) rfl rfl (by simp) hids fun σ => ?_
  cases hh : zaF n.rules r.id with
  | true =>
    rw [hh, if_pos rfl, zb5 hh] at hfind
    rw [if_pos rfl]
    simp only [Option.getD_some, Option.isSome_some] at hfind
    generalize za0 n r.id = d at hfind
    (try ((first | with_reducible refine zh ?_ | with_reducible refine zm ?_ | with_reducible refine zo ?_); simp [-cellOK, zr, zC, zs, zA, zab, zaM, zz, zB, ze])); repeat' (first | ((first | refine zd ?_ | refine zg ?_ | refine dN (by decide +kernel) ?_ | refine dC (by decide +kernel) ?_ | refine uP (hfind) ?_ | refine .inl ⟨_, .inl (hfind), ?_⟩ | (refine za ?_ ?_ <;> (intro hg; simp only [hg])) | fail) <;> simp [-cellOK, zr, zC, zs, zA, zab, zaM, zz, zB, ze]) | refine zf ?_ | refine zc ?_ | (refine zp ?_; simp only [zq]; try simp) | (refine zl (by simp) ?_; simp) | (refine zD (by simp) (by simp [noIds]) (by repeat (first | assumption | exact Ext.refl _ | refine zv ?_ | refine Ext.setF ?_ (by first | assumption | (simp [ze, St.set, zk]; done) | exact zt (by assumption)))) ?_; simp [-cellOK, zr, zC, zs, zA, zab, zaM, zz, zB, ze, zS]) | (refine zb (fun hc => ?_) (fun hc => ?_) <;> try simp at hc) | fail)
  | false =>
    rw [hh, if_neg (by simp)] at hfind
    rw [if_neg (by simp)]
    clear hids
    repeat (refine zf ?_)
    refine zg ?_
    simp [-cellOK, zr, zs]
    generalize hA0 : put 71 _ _ _ = A0
    have d2 : A0 2 = .rp ⟨2, σ.nx 2, 3⟩ 0 0 := by rw [← hA0]; simp [ze]
    have d3 : A0 3 = .rp ⟨3, σ.nx 3, 7⟩ 0 0 := by rw [← hA0]; simp [ze]
    have d4 : A0 4 = .rp ⟨4, σ.nx 4, 3⟩ 0 0 := by rw [← hA0]; simp [ze]
    clear hA0
    refine zaf ⟨2, σ.nx 2, 3⟩ ?_
    refine zaf ⟨3, σ.nx 3, 7⟩ ?_
    generalize hτ : St.del _ _ = τ
    generalize hA : (fun t => zF _ _ _) = A
    have a2 : A 2 = .pp (z7 n f).cells 0 := by rw [← hA, ← hτ]; simp [zF, St.new, St.del, zr, d2]
    have a3 : A 3 = .pp (zE r).cells 0 := by rw [← hA, ← hτ]; simp [zF, St.new, St.del, zs, d3]
    have a4 : A 4 = .rp ⟨4, σ.nx 4, 3⟩ 0 0 := by rw [← hA, ← hτ]; simp [zF, St.new, St.del, d4]
    have m4 : τ.m ⟨4, σ.nx 4, 3⟩ = some (.buf [.agg [.sl 0 [] true, .sl 0 [] true, .sl 0 [] true]]) := by rw [← hτ]; simp [St.new, St.del]
    have f4 : σ.m ⟨4, σ.nx 4, 3⟩ = none := zk _ _ _
    have hE : Ext σ τ := by
      rw [← hτ]
      refine ⟨fun i o h => ?_, fun s => ?_⟩
      · have q1 : i ≠ ⟨2, σ.nx 2, 3⟩ := fun e => by rw [e, zk] at h; cases h
        have q2 : i ≠ ⟨3, σ.nx 3, 7⟩ := fun e => by rw [e, zk] at h; cases h
        have q3 : i ≠ ⟨4, σ.nx 4, 3⟩ := fun e => by rw [e, zk] at h; cases h
        simp [St.del, St.new, q1, q2, q3, h]
      · simp only [St.del, St.new]
        repeat' split
        all_goals omega
    clear hτ hA d2 d3 d4
    obtain ⟨i4, hi4⟩ : ∃ i, (⟨4, σ.nx 4, 3⟩ : Id) = i := ⟨_, rfl⟩
    have s4 : i4.sz = 3 := by rw [← hi4]
    rw [hi4] at a4 m4 f4
    clear hi4
    simp only [Option.getD_none, Option.isSome_none] at hfind
    have n4 : ∀ s k z, ¬ z = 3 → (i4 = (⟨s, k, z⟩ : Id)) = False := fun s k z h => eq_false fun e => h (by rw [e] at s4; exact s4)
    have n4a := fun s k => n4 s k 7 (by decide)
    (try ((first | with_reducible refine zh ?_ | with_reducible refine zm ?_ | with_reducible refine zo ?_); simp [-cellOK, a2, a3, a4, zr, zC, zs, zA, zab, zaM, zz, zB, ze, n4a])); repeat' (first | ((first | refine zd ?_ | refine zg ?_ | refine dN (by decide +kernel) ?_ | refine dC (by decide +kernel) ?_ | refine uP (hfind) ?_ | refine .inl ⟨_, .inl (hfind), ?_⟩ | (refine za ?_ ?_ <;> (intro hg; simp only [hg])) | fail) <;> simp [-cellOK, a2, a3, a4, zr, zC, zs, zA, zab, zaM, zz, zB, ze, n4a]) | refine zf ?_ | refine zc ?_ | (refine zp ?_; simp only [zq]; try simp) | (refine zl (by simp) ?_; simp) | (refine zD (by simp) (by simp [noIds]) (by repeat (first | assumption | exact Ext.refl _ | refine zv ?_ | refine Ext.setF ?_ (by first | assumption | (simp [ze, St.set, zk]; done) | exact zt (by assumption)))) ?_; simp [-cellOK, a2, a3, a4, zr, zC, zs, zA, zab, zaM, zz, zB, ze, n4a, zS]) | (refine zb (fun hc => ?_) (fun hc => ?_) <;> try simp at hc) | fail)
    have hv4 : ∀ {ρ : St} {v : AV} {es : List AV}, OwnL σ ρ 7 v es → ∀ a k, v ≠ .rs i4 a k := fun hO a k e => by
      rcases hO with ⟨_, rfl⟩ | ⟨j, rfl, h2, _⟩
      · cases e
      · injection e with e; rw [e, s4] at h2; cases h2
    have hp := zcG n.rules r.id
    obtain ⟨p, hpp⟩ : ∃ p, zW n.rules r.id = p := ⟨_, rfl⟩
    have hlo := fun k x (hk : n.rules[k]? = some x) (h : k < p) => zdq hk (by rw [hpp]; exact h)
    have hhi := fun k x (hk : n.rules[k]? = some x) (h : p ≤ k) => zlv hsrt hh hk (by rw [hpp]; exact h)
    rw [hpp] at hp
    refine zZ (fun n' B ρ => Ext σ ρ ∧ B 2 = .pp (z7 n f).cells 0 ∧ B 3 = .pp (zE r).cells 0 ∧ B 4 = .rp i4 0 0 ∧ ρ.m i4 = some (.buf [.agg [.sl 0 [] true, .sl 0 [] true, .sl 0 [] true]]) ∧ ∃ (i : Nat) (v : AV), B 10 = .raw (.int .i64 i) ∧ B 8 = v ∧ B 9 = .raw (.bool (decide (p < i))) ∧ i ≤ n.rules.length ∧ n' = n.rules.length - i ∧ OwnL σ ρ 7 v ((zbG n.rules r i).map zE)) n.rules.length ?_ ?_
    · exact ⟨(by repeat (first | assumption | exact Ext.refl _ | refine zv ?_ | refine Ext.setF ?_ (by first | assumption | (simp [ze, St.set, zk]; done) | exact zt (by assumption)))), by simp [a2], by simp [a3], by simp [a4], by simp [zz, ze, n4a, m4], 0, .sl 0 [] true, by simp, by simp, by simp, by omega, by omega, .inl ⟨by rw [zmj]; rfl, rfl⟩⟩
    clear hE a2 a3 a4 m4 hfind
    rintro n' B ρ ⟨hE, a2, a3, a4, m4, i, v, a10, a8, a9, hi, rfl, hO⟩ I1 hI1
    have hal := znf n.rules r hi
    by_cases hlt : i < n.rules.length
    · have hx : n.rules[i]? = some n.rules[i] := List.getElem?_eq_getElem hlt
      obtain ⟨x, hxx⟩ : ∃ x, n.rules[i] = x := ⟨_, rfl⟩
      rw [hxx] at hx
      have hlo := hlo i x hx
      have hhi := hhi i x hx
      have w1 : IntKind.i64.wrap ((i : Int) + 1) = ((i + 1 : Nat) : Int) := by rw [zU (by omega) (by omega)]; omega
      rcases Nat.lt_trichotomy i p with h | h | h
      · have k1 : decide (p < i) = false := by simp; omega
        have k2 : (r.id < x.id) = False := eq_false (by have := hlo h; omega)
        rw [k1] at a9
        (try ((first | with_reducible refine zh ?_ | with_reducible refine zm ?_ | with_reducible refine zo ?_); simp [-cellOK, a2, a3, a4, a8, a9, a10, zr, zC, zs, zA, zu, hlt, hx, hxx, k2, zz, zB, ze, -zG])); repeat' (first | ((first | refine zd ?_ | refine zg ?_ | refine dN (by decide +kernel) ?_ | refine dC (by decide +kernel) ?_ | (refine za ?_ ?_ <;> (intro hg; simp only [hg])) | fail) <;> simp [-cellOK, a2, a3, a4, a8, a9, a10, zr, zC, zs, zA, zu, hlt, hx, hxx, k2, zz, zB, ze, -zG]) | refine zf ?_ | refine zc ?_ | (refine zp ?_; simp only [zq]; try simp) | (refine zb (fun hc => ?_) (fun hc => ?_) <;> try simp at hc) | fail)
        refine zal zce (σ0 := σ) (hO.ext (by repeat (first | assumption | exact Ext.refl _ | refine zv ?_ | refine Ext.setF ?_ (by first | assumption | (simp [ze, St.set, zk]; done) | exact zt (by assumption))))) (by repeat (first | assumption | exact Ext.refl _ | refine zv ?_ | refine Ext.setF ?_ (by first | assumption | (simp [ze, St.set, zk]; done) | exact zt (by assumption)))) (ys := [zE x]) (by simp [zz, ze]) (.inr rfl) (by have := zV x; simpa [z8, zM] using this) (by simp; omega) ?_
        intro v' τ' hO' hE' hk' _
        have m4' := (hk' i4 _ (by simp only [zz, ze, n4a]; simpa using m4) (hv4 hO)).1
        (try ((first | with_reducible refine zh ?_ | with_reducible refine zm ?_ | with_reducible refine zo ?_); simp [-cellOK, a2, a3, a4, a10, w1])); repeat' (first | ((first | refine zd ?_ | refine zg ?_ | refine dN (by decide +kernel) ?_ | refine dC (by decide +kernel) ?_ | (refine za ?_ ?_ <;> (intro hg; simp only [hg])) | fail) <;> simp [-cellOK, a2, a3, a4, a10, w1]) | refine zf ?_ | refine zc ?_ | (refine zp ?_; simp only [zq]; try simp) | (refine zb (fun hc => ?_) (fun hc => ?_) <;> try simp at hc) | fail)
        refine hI1 (n.rules.length - (i + 1)) _ _ (by omega) ⟨hE', by simp [a2], by simp [a3], by simp [a4], m4', i + 1, v', by simp, by simp, by simp [a9]; omega, by omega, rfl, ?_⟩
        rw [zoa hx (by omega), List.map_append]; exact hO'
      · have k1 : decide (p < i) = false := by simp; omega
        have k2 : (r.id < x.id) = True := eq_true (by have := hhi (by omega); omega)
        rw [k1] at a9
        (try ((first | with_reducible refine zh ?_ | with_reducible refine zm ?_ | with_reducible refine zo ?_); simp [-cellOK, a2, a3, a4, a8, a9, a10, zr, zC, zs, zA, zu, hlt, hx, hxx, k2, zz, zB, ze, -zG])); repeat' (first | ((first | refine zd ?_ | refine zg ?_ | refine dN (by decide +kernel) ?_ | refine dC (by decide +kernel) ?_ | (refine za ?_ ?_ <;> (intro hg; simp only [hg])) | fail) <;> simp [-cellOK, a2, a3, a4, a8, a9, a10, zr, zC, zs, zA, zu, hlt, hx, hxx, k2, zz, zB, ze, -zG]) | refine zf ?_ | refine zc ?_ | (refine zp ?_; simp only [zq]; try simp) | (refine zb (fun hc => ?_) (fun hc => ?_) <;> try simp at hc) | fail)
        refine zal zce (σ0 := σ) (hO.ext (by repeat (first | assumption | exact Ext.refl _ | refine zv ?_ | refine Ext.setF ?_ (by first | assumption | (simp [ze, St.set, zk]; done) | exact zt (by assumption))))) (by repeat (first | assumption | exact Ext.refl _ | refine zv ?_ | refine Ext.setF ?_ (by first | assumption | (simp [ze, St.set, zk]; done) | exact zt (by assumption)))) (ys := [zE r]) (by simp [zz, ze]) (.inr rfl) (by have := zV r; simpa [z8, zM] using this) (by simp; omega) ?_
        intro v1 τ1 hO1 hE1 hk1 _
        have m41 := (hk1 i4 _ (by simp only [zz, ze, n4a]; simpa using m4) (hv4 hO)).1
        (try ((first | with_reducible refine zh ?_ | with_reducible refine zm ?_ | with_reducible refine zo ?_); simp [-cellOK, a2, a3, a4, a10, zr, zC, zs, zA, zu, hlt, hx, hxx, zz, zB, ze, -zG])); repeat' (first | ((first | refine zd ?_ | refine zg ?_ | refine dN (by decide +kernel) ?_ | refine dC (by decide +kernel) ?_ | (refine za ?_ ?_ <;> (intro hg; simp only [hg])) | fail) <;> simp [-cellOK, a2, a3, a4, a10, zr, zC, zs, zA, zu, hlt, hx, hxx, zz, zB, ze, -zG]) | refine zf ?_ | refine zc ?_ | (refine zp ?_; simp only [zq]; try simp) | (refine zb (fun hc => ?_) (fun hc => ?_) <;> try simp at hc) | fail)
        refine zal zce (σ0 := σ) (hO1.ext (by repeat (first | assumption | exact Ext.refl _ | refine zv ?_ | refine Ext.setF ?_ (by first | assumption | (simp [ze, St.set, zk]; done) | exact zt (by assumption))))) (by repeat (first | assumption | exact Ext.refl _ | refine zv ?_ | refine Ext.setF ?_ (by first | assumption | (simp [ze, St.set, zk]; done) | exact zt (by assumption)))) (ys := [zE x]) (by simp [zz, ze]) (.inr rfl) (by have := zV x; simpa [z8, zM] using this) (by simp; omega) ?_
        intro v' τ' hO' hE' hk' _
        have m4' := (hk' i4 _ (by simp only [zz, ze, n4a]; simpa using m41) (hv4 hO1)).1
        (try ((first | with_reducible refine zh ?_ | with_reducible refine zm ?_ | with_reducible refine zo ?_); simp [-cellOK, a2, a3, a4, a10, w1])); repeat' (first | ((first | refine zd ?_ | refine zg ?_ | refine dN (by decide +kernel) ?_ | refine dC (by decide +kernel) ?_ | (refine za ?_ ?_ <;> (intro hg; simp only [hg])) | fail) <;> simp [-cellOK, a2, a3, a4, a10, w1]) | refine zf ?_ | refine zc ?_ | (refine zp ?_; simp only [zq]; try simp) | (refine zb (fun hc => ?_) (fun hc => ?_) <;> try simp at hc) | fail)
        refine hI1 (n.rules.length - (i + 1)) _ _ (by omega) ⟨hE', by simp [a2], by simp [a3], by simp [a4], m4', i + 1, v', by simp, by simp, by simp; omega, by omega, rfl, ?_⟩
        rw [zob hx (by omega), List.map_append, List.map_append]; exact hO'
      · have k1 : decide (p < i) = true := by simp; omega
        rw [k1] at a9
        (try ((first | with_reducible refine zh ?_ | with_reducible refine zm ?_ | with_reducible refine zo ?_); simp [-cellOK, a2, a3, a4, a8, a9, a10, zr, zC, zs, zA, zu, hlt, hx, hxx, zz, zB, ze, -zG])); repeat' (first | ((first | refine zd ?_ | refine zg ?_ | refine dN (by decide +kernel) ?_ | refine dC (by decide +kernel) ?_ | (refine za ?_ ?_ <;> (intro hg; simp only [hg])) | fail) <;> simp [-cellOK, a2, a3, a4, a8, a9, a10, zr, zC, zs, zA, zu, hlt, hx, hxx, zz, zB, ze, -zG]) | refine zf ?_ | refine zc ?_ | (refine zp ?_; simp only [zq]; try simp) | (refine zb (fun hc => ?_) (fun hc => ?_) <;> try simp at hc) | fail)
        refine zal zce (σ0 := σ) (hO.ext (by repeat (first | assumption | exact Ext.refl _ | refine zv ?_ | refine Ext.setF ?_ (by first | assumption | (simp [ze, St.set, zk]; done) | exact zt (by assumption))))) (by repeat (first | assumption | exact Ext.refl _ | refine zv ?_ | refine Ext.setF ?_ (by first | assumption | (simp [ze, St.set, zk]; done) | exact zt (by assumption)))) (ys := [zE x]) (by simp [zz, ze]) (.inr rfl) (by have := zV x; simpa [z8, zM] using this) (by simp; omega) ?_
        intro v' τ' hO' hE' hk' _
        have m4' := (hk' i4 _ (by simp only [zz, ze, n4a]; simpa using m4) (hv4 hO)).1
        (try ((first | with_reducible refine zh ?_ | with_reducible refine zm ?_ | with_reducible refine zo ?_); simp [-cellOK, a2, a3, a4, a10, w1])); repeat' (first | ((first | refine zd ?_ | refine zg ?_ | refine dN (by decide +kernel) ?_ | refine dC (by decide +kernel) ?_ | (refine za ?_ ?_ <;> (intro hg; simp only [hg])) | fail) <;> simp [-cellOK, a2, a3, a4, a10, w1]) | refine zf ?_ | refine zc ?_ | (refine zp ?_; simp only [zq]; try simp) | (refine zb (fun hc => ?_) (fun hc => ?_) <;> try simp at hc) | fail)
        refine hI1 (n.rules.length - (i + 1)) _ _ (by omega) ⟨hE', by simp [a2], by simp [a3], by simp [a4], m4', i + 1, v', by simp, by simp, by simp [a9]; omega, by omega, rfl, ?_⟩
        rw [zoc hx (by omega), List.map_append]; exact hO'
    · have hil : i = n.rules.length := by omega
      subst hil
      have hend := zne n.rules r
      rw [hpp] at hend
      clear hI1
      have hnr : zbl n r = ⟨n.t, zb8 n.rules r⟩ := rfl
      have hil := zjz n.rules r
      by_cases hpl : p < n.rules.length
      focus
        have k1 : decide (p < n.rules.length) = true := by simp [hpl]
        rw [k1] at a9
        rw [if_pos hpl] at hend
        (try ((first | with_reducible refine zh ?_ | with_reducible refine zm ?_ | with_reducible refine zo ?_); simp [-cellOK, a2, a3, a4, a8, a9, a10, zr, zC, zs, zA, zu, zz, zB, ze, -zG])); repeat' (first | ((first | refine zd ?_ | refine zg ?_ | refine dN (by decide +kernel) ?_ | refine dC (by decide +kernel) ?_ | (refine za ?_ ?_ <;> (intro hg; simp only [hg])) | fail) <;> simp [-cellOK, a2, a3, a4, a8, a9, a10, zr, zC, zs, zA, zu, zz, zB, ze, -zG]) | refine zf ?_ | refine zc ?_ | (refine zp ?_; simp only [zq]; try simp) | (refine zb (fun hc => ?_) (fun hc => ?_) <;> try simp at hc) | fail)
        have hO2 := hO
        rw [hend] at hO2
        have hE2 := hE
        have m42 := m4
        clear hO hE m4 a8
        generalize v = w at *
        generalize ρ = π at *
      rotate_left
      focus
        have k1 : decide (p < n.rules.length) = false := by simp; omega
        rw [k1] at a9
        rw [if_neg hpl] at hend
        (try ((first | with_reducible refine zh ?_ | with_reducible refine zm ?_ | with_reducible refine zo ?_); simp [-cellOK, a2, a3, a4, a8, a9, a10, zr, zC, zs, zA, zu, zz, zB, ze, -zG])); repeat' (first | ((first | refine zd ?_ | refine zg ?_ | refine dN (by decide +kernel) ?_ | refine dC (by decide +kernel) ?_ | (refine za ?_ ?_ <;> (intro hg; simp only [hg])) | fail) <;> simp [-cellOK, a2, a3, a4, a8, a9, a10, zr, zC, zs, zA, zu, zz, zB, ze, -zG]) | refine zf ?_ | refine zc ?_ | (refine zp ?_; simp only [zq]; try simp) | (refine zb (fun hc => ?_) (fun hc => ?_) <;> try simp at hc) | fail)
        refine zal zce (σ0 := σ) (hO.ext (by repeat (first | assumption | exact Ext.refl _ | refine zv ?_ | refine Ext.setF ?_ (by first | assumption | (simp [ze, St.set, zk]; done) | exact zt (by assumption))))) (by repeat (first | assumption | exact Ext.refl _ | refine zv ?_ | refine Ext.setF ?_ (by first | assumption | (simp [ze, St.set, zk]; done) | exact zt (by assumption)))) (ys := [zE r]) (by simp [zz, ze]) (.inr rfl) (by have := zV r; simpa [z8, zM] using this) (by simp; omega) ?_
        intro w π hO2 hE2 hk2 _
        have m42 := (hk2 i4 _ (by simp only [zz, ze, n4a]; simpa using m4) (hv4 hO)).1
        have e9 : (zbG n.rules r n.rules.length).map zE ++ [zE r] = (zb8 n.rules r).map zE := by rw [← hend, List.map_append]; rfl
        rw [e9] at hO2
        clear hO hE m4 a8 hk2 e9
        (try ((first | with_reducible refine zh ?_ | with_reducible refine zm ?_ | with_reducible refine zo ?_); simp [-cellOK, a2, a3, a4, a10, zr, zC, zs, zA, zu, zz, zB, ze])); repeat' (first | ((first | refine zd ?_ | refine zg ?_ | refine dN (by decide +kernel) ?_ | refine dC (by decide +kernel) ?_ | (refine za ?_ ?_ <;> (intro hg; simp only [hg])) | fail) <;> simp [-cellOK, a2, a3, a4, a10, zr, zC, zs, zA, zu, zz, zB, ze]) | refine zf ?_ | refine zc ?_ | (refine zp ?_; simp only [zq]; try simp) | (refine zb (fun hc => ?_) (fun hc => ?_) <;> try simp at hc) | fail)
      all_goals
        have hcv : w.cells = [w] := by rcases hO2 with ⟨_, rfl⟩ | ⟨j, rfl, _⟩ <;> rfl
        have hcv2 : cellOK w = true := by rcases hO2 with ⟨_, rfl⟩ | ⟨j, rfl, _⟩ <;> rfl
        have c1 : (zy n.t.ports f.p).cells = [zy n.t.ports f.p] := rfl
        have c2 : (zw n.t.links f.l).cells = [zw n.t.links f.l] := rfl
        have c3 : cellOK (zy n.t.ports f.p) = true := rfl
        have c4 : cellOK (zw n.t.links f.l) = true := rfl
        obtain ⟨i11, hi11⟩ : ∃ i, (⟨11, π.nx 11, 3⟩ : Id) = i := ⟨_, rfl⟩
        have s11 : σ.m i11 = none := by rw [← hi11]; exact zt hE2
        have p11 : π.m i11 = none := by rw [← hi11]; exact zk _ _ _
        have z11 : i11.sz = 3 := by rw [← hi11]
        (try ((first | with_reducible refine zh ?_ | with_reducible refine zm ?_ | with_reducible refine zo ?_); simp [-cellOK, hcv, hcv2, c1, c2, c3, c4, zz, zB, ze]))
        rw [hi11]
        generalize hA : put 71 _ _ _ = A
        have b4 : A 4 = .rp i4 0 0 := by rw [← hA]; simp [a4, hi11]
        have b11 : A 11 = .rp i11 0 0 := by rw [← hA]; simp [hi11]
        clear hA a2 a3 a4 a9 a10
        generalize hχ : St.set _ _ _ = χ
        have e11 : (π.new 11 3 (.buf [.agg [.sl 0 [] true, .sl 0 [] true, .sl 0 [] true]])).m i11 = some (.buf [.agg [.sl 0 [] true, .sl 0 [] true, .sl 0 [] true]]) := by rw [← hi11]; exact zdm
        have m11 : χ.m i11 = some (.buf [.agg [zy n.t.ports f.p, zw n.t.links f.l, w]]) := by rw [← hχ, zbC e11]
        have oχ : ∀ q o, π.m q = some o → χ.m q = some o := fun q o h => by
          rw [← hχ, zbg (fun e => by rw [e, p11] at h; cases h)]; exact zaP _ _ h
        have hE3 : Ext σ χ := by rw [← hχ]; exact Ext.setF (zv hE2) s11
        clear hχ e11
        rcases hO2 with ⟨e, _⟩ | ⟨j, rfl, hj, hm, hn'⟩
        · have := congrArg List.length e
          rw [List.length_map, hil] at this; simp at this
        have c4m := oχ i4 _ m42
        have cj := oχ j _ hm
        have j11 : j ≠ i11 := fun e => by rw [e, p11] at hm; cases hm
        have i411 : i4 ≠ i11 := fun e => by rw [e, p11] at m42; cases m42
        have j4 : i4 ≠ j := fun e => by rw [← e, s4] at hj; cases hj
        clear oχ hE2 m42 hm
        refine zaf i11 ?_
        refine zde j ?_
        have g1 : ∀ (m m' : zX) l b, zF m' m (zy l b) = zy l b := fun _ _ _ _ => rfl
        have g2 : ∀ (m m' : zX) l b, zF m' m (zw l b) = zw l b := fun _ _ _ _ => rfl
        have d11 : zaA ((χ.del i11).del j).m (χ.del i11).m (zF (χ.del i11).m χ.m (A 11)) = .pp (z7 (zbl n r) ⟨f.p, f.l, false⟩).cells 0 := by
          rw [b11, za3 (by simp [St.del]) m11 rfl]
          simp only [zaA, AV.cells, List.map_cons, List.map_nil, g1, g2]
          rw [zbI (by simp [St.del]) (by rw [zR j11]; exact cj) (by omega), hj]
          simp only [hnr, zr, zu, List.drop_zero]
          rw [List.take_length]
          rfl
        have d4 : zaA ((χ.del i11).del j).m (χ.del i11).m (zF (χ.del i11).m χ.m (A 4)) = .rp i4 0 0 := by
          rw [b4, zb3 i411]
          simp only [zaA]
          exact zb3 j4
        have hE4 : Ext σ ((χ.del i11).del j) := by
          refine ⟨fun i o h => ?_, hE3.nx⟩
          rw [zR (fun e => by rw [e, hn'] at h; cases h), zR (fun e => by rw [e, s11] at h; cases h)]
          exact hE3.m i o h
        have m4' : ((χ.del i11).del j).m i4 = some (.buf [.agg [.sl 0 [] true, .sl 0 [] true, .sl 0 [] true]]) := by rw [zR j4, zR i411]; exact c4m
        generalize hA' : (fun t => zaA _ _ _) = A'
        have b4' : A' 4 = .rp i4 0 0 := by rw [← hA']; exact d4
        have b11' : A' 11 = .pp (z7 (zbl n r) ⟨f.p, f.l, false⟩).cells 0 := by rw [← hA']; exact d11
        clear hA' d4 d11 b4 b11 c4m cj m11 hE3
        generalize (χ.del i11).del j = ρ' at *
        cases hRR : zaq (zbl n r) with
        | false =>
          rw [hRR] at hright
          rw [if_neg (by simp)]
          (try ((first | with_reducible refine zh ?_ | with_reducible refine zm ?_ | with_reducible refine zo ?_); simp [-cellOK, b4', b11', m4', zr, zC, zz, zB, ze])); repeat' (first | ((first | refine zd ?_ | refine zg ?_ | refine dN (by decide +kernel) ?_ | refine dC (by decide +kernel) ?_ | refine uP (hright) ?_ | refine .inl ⟨_, .inl (hright), ?_⟩ | (refine za ?_ ?_ <;> (intro hg; simp only [hg])) | fail) <;> simp [-cellOK, b4', b11', m4', zr, zC, zz, zB, ze]) | refine zf ?_ | refine zc ?_ | (refine zp ?_; simp only [zq]; try simp) | (refine zl (by simp) ?_; simp) | (refine zD (by simp) (by simp [noIds]) (by repeat (first | assumption | exact Ext.refl _ | refine zv ?_ | refine Ext.setF ?_ (by first | assumption | (simp [ze, St.set, zk]; done) | exact zt (by assumption)))) ?_; simp [-cellOK, b4', b11', m4', zr, zC, zz, zB, ze, zS]) | (refine zb (fun hc => ?_) (fun hc => ?_) <;> try simp at hc) | fail)
        | true =>
          rw [hRR] at hright
          rw [if_pos rfl]
          (try ((first | with_reducible refine zh ?_ | with_reducible refine zm ?_ | with_reducible refine zo ?_); simp [-cellOK, b4', b11', m4', zr, zC, zz, zB, ze])); repeat' (first | ((first | refine zd ?_ | refine zg ?_ | refine dN (by decide +kernel) ?_ | refine dC (by decide +kernel) ?_ | refine uP (hright) ?_ | refine .inl ⟨_, .inl (hright), ?_⟩ | (refine za ?_ ?_ <;> (intro hg; simp only [hg])) | fail) <;> simp [-cellOK, b4', b11', m4', zr, zC, zz, zB, ze]) | refine zf ?_ | refine zc ?_ | (refine zp ?_; simp only [zq]; try simp) | (refine zl (by simp) ?_; simp) | (refine zD (by simp) (by simp [noIds]) (by repeat (first | assumption | exact Ext.refl _ | refine zv ?_ | refine Ext.setF ?_ (by first | assumption | (simp [ze, St.set, zk]; done) | exact zt (by assumption)))) ?_; simp [-cellOK, b4', b11', m4', zr, zC, zz, zB, ze, zS]) | (refine zb (fun hc => ?_) (fun hc => ?_) <;> try simp at hc) | fail)
          rfl
def zfP (n : Nw) (id : Int) : Nw := ⟨n.t, n.rules.filter fun x => !zcj id x⟩
theorem zod {n : Nw} (hs : Srt n.rules) {id : Int} (h : zaF n.rules id = true) : zfP n id = zbz n id := by
  obtain ⟨e, hid⟩ := zib hs h
  have hx := zb5 h
  obtain ⟨hl, hv⟩ := List.getElem?_eq_some_iff.1 hx
  unfold zfP zbz
  congr 1
  generalize hp : zW n.rules id = p at *
  rw [List.eraseIdx_eq_take_drop_succ]
  conv => lhs; rw [← List.take_append_drop p n.rules, List.drop_eq_getElem_cons hl, hv]
  rw [List.filter_append, List.filter_cons, if_neg (by simp [zcj, hid])]
  congr 1
  · refine List.filter_eq_self.2 fun a ha => ?_
    obtain ⟨k, hk, rfl⟩ := List.mem_take_iff_getElem.1 ha
    have := zdq (id := id) (List.getElem?_eq_getElem (l := n.rules) (i := k) (by omega)) (by omega)
    simp [zcj]; omega
  · refine List.filter_eq_self.2 fun a ha => ?_
    obtain ⟨k, hk, rfl⟩ := List.mem_drop_iff_getElem.1 ha
    have := List.pairwise_iff_getElem.1 hs p (p + 1 + k) hl (by omega) (by omega)
    rw [hv] at this
    simp [zcj]; omega
def zjJ (n : Nw) (f : Fl) (id : Int) : AV := if zaF n.rules id = true then .tup [z7 (zfP n id) ⟨f.p, f.l, false⟩, .raw (.int .i64 0)] else .tup [zjb, .raw (.int .i64 143)]
theorem zhu (n : Nw) (f : Fl) (id : Int) (hn : NwOK n) (hR : zaq n = true) :
    PCalls Tryz.prog 40 [z7 n f, .raw (.int .i64 id)] (zjJ n f id) := by
  have hsrt := zcv hR
  have h40 := (zbe hR).2
  have hfind := zer n.rules f.r id (by omega)
  rw [zgq hsrt] at hfind
  unfold zjJ zjb
  have hids : noIds (if zaF n.rules id = true then .tup [z7 (zfP n id) ⟨f.p, f.l, false⟩, .raw (.int .i64 0)] else .tup [.agg [.sl 0 [] true, .sl 0 [] true, .sl 0 [] true], .raw (.int .i64 143)]) := by
    split <;> simp [noIds]
  refine zJ Tryz.func40 rfl (N := 47) rfl rfl (by simp) hids fun σ => ?_
  cases hh : zaF n.rules id with
  | false =>
    rw [hh, if_neg (by simp)] at hfind
    rw [if_neg (by simp)]
    simp only [Option.getD_none, Option.isSome_none] at hfind
    (try ((first | with_reducible refine zh ?_ | with_reducible refine zm ?_ | with_reducible refine zo ?_); simp [-cellOK, zr, zC, zs, zA, zab, zaM, zz, zB, ze])); repeat' (first | ((first | refine zd ?_ | refine zg ?_ | refine dN (by decide +kernel) ?_ | refine dC (by decide +kernel) ?_ | refine uP (hfind) ?_ | refine .inl ⟨_, .inl (hfind), ?_⟩ | (refine za ?_ ?_ <;> (intro hg; simp only [hg])) | fail) <;> simp [-cellOK, zr, zC, zs, zA, zab, zaM, zz, zB, ze]) | refine zf ?_ | refine zc ?_ | (refine zp ?_; simp only [zq]; try simp) | (refine zl (by simp) ?_; simp) | (refine zD (by simp) (by simp [noIds]) (by repeat (first | assumption | exact Ext.refl _ | refine zv ?_ | refine Ext.setF ?_ (by first | assumption | (simp [ze, St.set, zk]; done) | exact zt (by assumption)))) ?_; simp [-cellOK, zr, zC, zs, zA, zab, zaM, zz, zB, ze, zS]) | (refine zb (fun hc => ?_) (fun hc => ?_) <;> try simp at hc) | fail)
  | true =>
    rw [hh, if_pos rfl, zb5 hh] at hfind
    rw [if_pos rfl]
    simp only [Option.getD_some, Option.isSome_some] at hfind
    generalize za0 n id = d at hfind
    clear hids
    repeat (refine zf ?_)
    refine zg ?_
    simp [-cellOK, zr]
    generalize hA0 : put 47 _ _ _ = A0
    have d1 : A0 1 = .raw (.int .i64 id) := by rw [← hA0]; simp [ze]
    have d2 : A0 2 = .rp ⟨2, σ.nx 2, 3⟩ 0 0 := by rw [← hA0]; simp [ze]
    have d4 : A0 4 = .rp ⟨4, σ.nx 4, 3⟩ 0 0 := by rw [← hA0]; simp [ze]
    clear hA0
    refine zaf ⟨2, σ.nx 2, 3⟩ ?_
    generalize hτ : St.del _ _ = τ
    generalize hA : (fun t => zF _ _ _) = A
    have a1 : A 1 = .raw (.int .i64 id) := by rw [← hA, ← hτ]; simp [zF, St.new, St.del, d1]
    have a2 : A 2 = .pp (z7 n f).cells 0 := by rw [← hA, ← hτ]; simp [zF, St.new, St.del, zr, d2]
    have a4 : A 4 = .rp ⟨4, σ.nx 4, 3⟩ 0 0 := by rw [← hA, ← hτ]; simp [zF, St.new, St.del, d4]
    have m4 : τ.m ⟨4, σ.nx 4, 3⟩ = some (.buf [.agg [.sl 0 [] true, .sl 0 [] true, .sl 0 [] true]]) := by rw [← hτ]; simp [St.new, St.del]
    have f4 : σ.m ⟨4, σ.nx 4, 3⟩ = none := zk _ _ _
    have hE : Ext σ τ := by
      rw [← hτ]
      refine ⟨fun i o h => ?_, fun s => ?_⟩
      · have q1 : i ≠ ⟨2, σ.nx 2, 3⟩ := fun e => by rw [e, zk] at h; cases h
        have q3 : i ≠ ⟨4, σ.nx 4, 3⟩ := fun e => by rw [e, zk] at h; cases h
        simp [St.del, St.new, q1, q3, h]
      · simp only [St.del, St.new]
        repeat' split
        all_goals omega
    clear hτ hA d1 d2 d4
    obtain ⟨i4, hi4⟩ : ∃ i, (⟨4, σ.nx 4, 3⟩ : Id) = i := ⟨_, rfl⟩
    have s4 : i4.sz = 3 := by rw [← hi4]
    rw [hi4] at a4 m4 f4
    clear hi4
    have n4 : ∀ s k z, ¬ z = 3 → (i4 = (⟨s, k, z⟩ : Id)) = False := fun s k z h => eq_false fun e => h (by rw [e] at s4; exact s4)
    have n4a := fun s k => n4 s k 7 (by decide)
    have hv4 : ∀ {ρ : St} {v : AV} {es : List AV}, OwnL σ ρ 7 v es → ∀ a k, v ≠ .rs i4 a k := fun hO a k e => by
      rcases hO with ⟨_, rfl⟩ | ⟨j, rfl, h2, _⟩
      · cases e
      · injection e with e; rw [e, s4] at h2; cases h2
    (try ((first | with_reducible refine zh ?_ | with_reducible refine zm ?_ | with_reducible refine zo ?_); simp [-cellOK, a1, a2, a4, zr, zC, zs, zA, zab, zaM, zz, zB, ze, n4a])); repeat' (first | ((first | refine zd ?_ | refine zg ?_ | refine dN (by decide +kernel) ?_ | refine dC (by decide +kernel) ?_ | refine uP (hfind) ?_ | refine .inl ⟨_, .inl (hfind), ?_⟩ | (refine za ?_ ?_ <;> (intro hg; simp only [hg])) | fail) <;> simp [-cellOK, a1, a2, a4, zr, zC, zs, zA, zab, zaM, zz, zB, ze, n4a]) | refine zf ?_ | refine zc ?_ | (refine zp ?_; simp only [zq]; try simp) | (refine zl (by simp) ?_; simp) | (refine zD (by simp) (by simp [noIds]) (by repeat (first | assumption | exact Ext.refl _ | refine zv ?_ | refine Ext.setF ?_ (by first | assumption | (simp [ze, St.set, zk]; done) | exact zt (by assumption)))) ?_; simp [-cellOK, a1, a2, a4, zr, zC, zs, zA, zab, zaM, zz, zB, ze, n4a, zS]) | (refine zb (fun hc => ?_) (fun hc => ?_) <;> try simp at hc) | fail)
    refine zZ (fun n' B ρ => Ext σ ρ ∧ B 1 = .raw (.int .i64 id) ∧ B 2 = .pp (z7 n f).cells 0 ∧ B 4 = .rp i4 0 0 ∧ ρ.m i4 = some (.buf [.agg [.sl 0 [] true, .sl 0 [] true, .sl 0 [] true]]) ∧ ∃ (i : Nat) (v : AV), B 9 = .raw (.int .i64 i) ∧ B 8 = v ∧ i ≤ n.rules.length ∧ n' = n.rules.length - i ∧ OwnL σ ρ 7 v (((n.rules.take i).filter fun x => !zcj id x).map zE)) n.rules.length ?_ ?_
    · exact ⟨(by repeat (first | assumption | exact Ext.refl _ | refine zv ?_ | refine Ext.setF ?_ (by first | assumption | (simp [ze, St.set, zk]; done) | exact zt (by assumption)))), by simp [a1], by simp [a2], by simp [a4], by simp [zz, ze, n4a, m4], 0, .sl 0 [] true, by simp, by simp, by omega, by omega, .inl ⟨by simp, rfl⟩⟩
    clear hE a1 a2 a4 m4 hfind
    rintro n' B ρ ⟨hE, a1, a2, a4, m4, i, v, a9, a8, hi, rfl, hO⟩ I1 hI1
    have hal : ((n.rules.take i).filter fun x => !zcj id x).length ≤ i := Nat.le_trans (List.length_filter_le _ _) (by rw [List.length_take]; omega)
    by_cases hlt : i < n.rules.length
    · have hx : n.rules[i]? = some n.rules[i] := List.getElem?_eq_getElem hlt
      obtain ⟨x, hxx⟩ : ∃ x, n.rules[i] = x := ⟨_, rfl⟩
      rw [hxx] at hx
      have w1 : IntKind.i64.wrap ((i : Int) + 1) = ((i + 1 : Nat) : Int) := by rw [zU (by omega) (by omega)]; omega
      have htk : (n.rules.take (i + 1)).filter (fun x => !zcj id x) = (n.rules.take i).filter (fun x => !zcj id x) ++ [x].filter (fun x => !zcj id x) := by
        rw [List.take_add_one, hx, List.filter_append]; rfl
      by_cases hid : x.id = id
      · have hid' := eq_true hid
        (try ((first | with_reducible refine zh ?_ | with_reducible refine zm ?_ | with_reducible refine zo ?_); simp [-cellOK, a1, a2, a4, a8, a9, zr, zC, zs, zA, zu, hlt, hx, hxx, hid', w1, zz, zB, ze, -zG])); repeat' (first | ((first | refine zd ?_ | refine zg ?_ | refine dN (by decide +kernel) ?_ | refine dC (by decide +kernel) ?_ | (refine za ?_ ?_ <;> (intro hg; simp only [hg])) | fail) <;> simp [-cellOK, a1, a2, a4, a8, a9, zr, zC, zs, zA, zu, hlt, hx, hxx, hid', w1, zz, zB, ze, -zG]) | refine zf ?_ | refine zc ?_ | (refine zp ?_; simp only [zq]; try simp) | (refine zl (by simp) ?_; simp) | (refine zD (by simp) (by simp [noIds]) (by repeat (first | assumption | exact Ext.refl _ | refine zv ?_ | refine Ext.setF ?_ (by first | assumption | (simp [ze, St.set, zk]; done) | exact zt (by assumption)))) ?_; simp [-cellOK, a1, a2, a4, a8, a9, zr, zC, zs, zA, zu, hlt, hx, hxx, hid', w1, zz, zB, ze, -zG, zS]) | (refine zb (fun hc => ?_) (fun hc => ?_) <;> try simp at hc) | fail)
        refine hI1 (n.rules.length - (i + 1)) _ _ (by omega) ⟨hE, by simp [a1], by simp [a2], by simp [a4], m4, i + 1, v, by simp, by simp [a8], by omega, rfl, ?_⟩
        rw [htk, List.filter_cons, if_neg (by simp [zcj, hid])]
        simpa using hO
      · have hid' := eq_false hid
        (try ((first | with_reducible refine zh ?_ | with_reducible refine zm ?_ | with_reducible refine zo ?_); simp [-cellOK, a1, a2, a4, a8, a9, zr, zC, zs, zA, zu, hlt, hx, hxx, hid', zz, zB, ze, -zG])); repeat' (first | ((first | refine zd ?_ | refine zg ?_ | refine dN (by decide +kernel) ?_ | refine dC (by decide +kernel) ?_ | (refine za ?_ ?_ <;> (intro hg; simp only [hg])) | fail) <;> simp [-cellOK, a1, a2, a4, a8, a9, zr, zC, zs, zA, zu, hlt, hx, hxx, hid', zz, zB, ze, -zG]) | refine zf ?_ | refine zc ?_ | (refine zp ?_; simp only [zq]; try simp) | (refine zb (fun hc => ?_) (fun hc => ?_) <;> try simp at hc) | fail)
        refine zal zce (σ0 := σ) (hO.ext (by repeat (first | assumption | exact Ext.refl _ | refine zv ?_ | refine Ext.setF ?_ (by first | assumption | (simp [ze, St.set, zk]; done) | exact zt (by assumption))))) (by repeat (first | assumption | exact Ext.refl _ | refine zv ?_ | refine Ext.setF ?_ (by first | assumption | (simp [ze, St.set, zk]; done) | exact zt (by assumption)))) (ys := [zE x]) (by simp [zz, ze]) (.inr rfl) (by have := zV x; simpa [z8, zM] using this) (by simp; omega) ?_
        intro v' τ' hO' hE' hk' _
        have m4' := (hk' i4 _ (by simp only [zz, ze, n4a]; simpa using m4) (hv4 hO)).1
        (try ((first | with_reducible refine zh ?_ | with_reducible refine zm ?_ | with_reducible refine zo ?_); simp [-cellOK, a1, a2, a4, a9, w1])); repeat' (first | ((first | refine zd ?_ | refine zg ?_ | refine dN (by decide +kernel) ?_ | refine dC (by decide +kernel) ?_ | (refine za ?_ ?_ <;> (intro hg; simp only [hg])) | fail) <;> simp [-cellOK, a1, a2, a4, a9, w1]) | refine zf ?_ | refine zc ?_ | (refine zp ?_; simp only [zq]; try simp) | (refine zb (fun hc => ?_) (fun hc => ?_) <;> try simp at hc) | fail)
        refine hI1 (n.rules.length - (i + 1)) _ _ (by omega) ⟨hE', by simp [a1], by simp [a2], by simp [a4], m4', i + 1, v', by simp, by simp, by omega, rfl, ?_⟩
        rw [htk, List.filter_cons, if_pos (by simp [zcj, hid]), List.map_append]
        exact hO'
    · have hil : i = n.rules.length := by omega
      subst hil
      rw [List.take_length] at hO hal
      clear hI1
      have hcv : v.cells = [v] := by rcases hO with ⟨_, rfl⟩ | ⟨j, rfl, _⟩ <;> rfl
      have hcv2 : cellOK v = true := by rcases hO with ⟨_, rfl⟩ | ⟨j, rfl, _⟩ <;> rfl
      have c1 : (zy n.t.ports f.p).cells = [zy n.t.ports f.p] := rfl
      have c2 : (zw n.t.links f.l).cells = [zw n.t.links f.l] := rfl
      have c3 : cellOK (zy n.t.ports f.p) = true := rfl
      have c4 : cellOK (zw n.t.links f.l) = true := rfl
      (try ((first | with_reducible refine zh ?_ | with_reducible refine zm ?_ | with_reducible refine zo ?_); simp [-cellOK, a1, a2, a4, a8, a9, m4, zr, zC, zs, zA, zu, hcv, hcv2, c1, c2, c3, c4, zz, zB, ze])); repeat' (first | ((first | refine zd ?_ | refine zg ?_ | refine dN (by decide +kernel) ?_ | refine dC (by decide +kernel) ?_ | (refine za ?_ ?_ <;> (intro hg; simp only [hg])) | fail) <;> simp [-cellOK, a1, a2, a4, a8, a9, m4, zr, zC, zs, zA, zu, hcv, hcv2, c1, c2, c3, c4, zz, zB, ze]) | refine zf ?_ | refine zc ?_ | (refine zp ?_; simp only [zq]; try simp) | (refine zb (fun hc => ?_) (fun hc => ?_) <;> try simp at hc) | fail)
      have hw2 : Weaker (.tup [.agg [zy n.t.ports f.p, zw n.t.links f.l, .sl 0 [] true], .raw (.int .i64 0)]) (.tup [.agg [zy n.t.ports f.p, zw n.t.links f.l, .sl 7 [] false], .raw (.int .i64 0)]) := by
        intro S u h
        simp only [VRel, LRel] at h ⊢
        obtain ⟨l, rfl, v1, v2, e1, ⟨cs, rfl, u1, u2, e2, h1, u3, u4, rfl, h2, u5, u6, rfl, ⟨base, cap, rfl, q1, q2, q3⟩, rfl⟩, h3⟩ := h
        exact ⟨l, rfl, _, v2, e1, ⟨cs, rfl, u1, _, e2, h1, u3, _, rfl, h2, _, _, rfl, ⟨base, cap, rfl, q1, by simp, by simp⟩, rfl⟩, h3⟩
      rcases hO with ⟨e, rfl⟩ | ⟨j, rfl, hj, hm, hn'⟩
      · have e2 : zfP n id = ⟨n.t, []⟩ := by
          unfold zfP
          rw [List.map_eq_nil_iff.1 e]
        rw [e2]
        refine zei (x := .tup [.agg [zy n.t.ports f.p, zw n.t.links f.l, .sl 0 [] true], .raw (.int .i64 0)]) (.inr rfl) (Ext.setF hE f4) (by simp [zB, zz, m4, a4]) ?_
        have e3 : zah σ.m (ρ.set i4 (.buf [.agg [zy n.t.ports f.p, zw n.t.links f.l, .sl 0 [] true]])).m (.tup [.agg [zy n.t.ports f.p, zw n.t.links f.l, .sl 0 [] true], .raw (.int .i64 0)]) = .tup [.agg [zy n.t.ports f.p, zw n.t.links f.l, .sl 0 [] true], .raw (.int .i64 0)] := by simp [zah, zF, zy, zw]
        rw [e3]
        exact hw2
      · have j4 : j ≠ i4 := fun e => by rw [e, s4] at hj; cases hj
        refine zbi (x := .tup [.agg [zy n.t.ports f.p, zw n.t.links f.l, .rs j 0 (((n.rules.filter fun x => !zcj id x).map zE).length)], .raw (.int .i64 0)]) (.inr rfl) (Ext.setF hE f4) (by simp [zB, zz, m4, a4]) ?_
        have e3 : zF σ.m (ρ.set i4 (.buf [.agg [zy n.t.ports f.p, zw n.t.links f.l, .rs j 0 (((n.rules.filter fun x => !zcj id x).map zE).length)]])).m (.rs j 0 (((n.rules.filter fun x => !zcj id x).map zE).length)) = .sl 7 ((n.rules.filter fun x => !zcj id x).map zE) false := by
          rw [zbI hn' (by rw [zbg j4]; exact hm) (by omega), hj, List.drop_zero, List.take_length]
        simp only [zah, List.map_cons, List.map_nil, e3]
        rfl
end Go.Proofs.YtanimmdlgmkmkaaGreat.Av
namespace Go.Proofs.YtanimmdlgmkmkaaGreat.Av
open Go
set_option linter.unusedSimpArgs false
set_option linter.unusedVariables false
set_option maxRecDepth 100000
set_option maxHeartbeats 4000000
set_option pp.maxSteps 600
theorem zhd {n : Nw} (h : zdh n = true) : zaq n = true := by
  unfold zdh at h
  simp only [Bool.and_eq_true] at h
  exact h.2.2.2
theorem zjc (n : Nw) (f : Fl) (r : Ru) (id : Int) (hn : NwOK n) (hr : RuOK r) :
    PCalls Tryz.prog 7 [z7 n f, zE r, .raw (.int .i64 id)] (.raw (.bool true)) := by
  have hal := zgB
  have hfit := zg5 n f hn.w
  have hof := zh7 n f hn
  refine zJ Tryz.func7 rfl (N := 94) rfl rfl (by simp) (by simp [noIds]) fun σ => ?_
  cases hf : zdh n with
  | false =>
    rw [hf] at hfit
    have hids := zb4 (fun _ => False) (ofL n).1
    generalize (ofL n).2 = e at hof
    generalize (ofL n).1 = L at hof hids
    (try ((first | with_reducible refine zh ?_ | with_reducible refine zm ?_ | with_reducible refine zo ?_); simp [-cellOK, zr, zC, zs, zA, zz, zB, ze])); repeat' (first | ((first | refine zd ?_ | refine zg ?_ | refine dN (by decide +kernel) ?_ | refine dC (by decide +kernel) ?_ | refine uP (hfit) ?_ | refine .inl ⟨_, .inl (hfit), ?_⟩ | refine uP (hof) ?_ | refine .inl ⟨_, .inl (hof), ?_⟩ | refine uP (hal) ?_ | refine .inl ⟨_, .inl (hal), ?_⟩ | (refine za ?_ ?_ <;> (intro hg; simp only [hg])) | fail) <;> simp [-cellOK, zr, zC, zs, zA, zz, zB, ze]) | refine zf ?_ | refine zc ?_ | (refine zp ?_; simp only [zq]; try simp) | (refine zl (by simp) ?_; simp) | (refine zD (by simp) (by simp [noIds]) (by repeat (first | assumption | exact Ext.refl _ | refine zv ?_ | refine Ext.setF ?_ (by first | assumption | (simp [ze, St.set, zk]; done) | exact zt (by assumption)))) ?_; simp [-cellOK, zr, zC, zs, zA, zz, zB, ze, zS]) | (refine zb (fun hc => ?_) (fun hc => ?_) <;> try simp at hc) | fail)
  | true =>
  rw [hf] at hfit
  have hR := zhd hf
  have e0 : ofL n = (some (zbj n), 0) := by unfold ofL; rw [hR]; rfl
  rw [e0] at hof
  have hrep := zg7 hn hR
  have hsrt := zcv hR
  have h40 := (zbe hR).2
  -- what Insert comes to
  have hins : ∃ (X : AV) (eI : Int), PCalls Tryz.prog 37 [zP (some (zbj n)), zE r] (.tup [X, .raw (.int .i64 eI)]) ∧ ((eI = 0) = False ∨ (eI = 0) = True ∧
      ∃ Y, PCalls Tryz.prog 39 [X, .raw (.int .i64 r.id)] (.tup [Y, .raw (.int .i64 0)]) ∧ PCalls Tryz.prog 26 [Y, z7 n f] (.raw (.bool true))) := by
    cases hh : zaF n.rules r.id with
    | true => exact ⟨_, _, zfj hrep r hh, .inl (by simp)⟩
    | false =>
      have h1 := zhc hrep r hr hh
      unfold zgp at h1
      cases hRi : zaq (zbl n r) with
      | false =>
        rw [if_neg (by simp [hRi])] at h1
        exact ⟨_, _, h1, .inl (by simp)⟩
      | true =>
        rw [if_pos hRi] at h1
        have hrep2 := zeH hrep hr hRi
        have h2 := zfh hrep2 r.id (zlw n.rules r)
        have hrep3 := zdP hrep2 (zlw n.rules r)
        rw [zpw] at hrep3
        exact ⟨_, _, h1, .inr ⟨by simp, _, h2, zcK f hrep3⟩⟩
  have hfind := zer n.rules f.r id (by omega)
  rw [zgq hsrt] at hfind
  have hdel : ∃ (b : Bool) (x : Ru) (X : AV) (eD : Int), PCalls Tryz.prog 41 [zu n.rules f.r, .raw (.int .i64 id)] (.tup [zE x, .raw (.bool b)]) ∧ PCalls Tryz.prog 39 [zP (some (zbj n)), .raw (.int .i64 id)] (.tup [X, .raw (.int .i64 eD)]) ∧
      (b = false ∧ (eD = 0) = False ∨ b = true ∧ (eD = 0) = True ∧
      ∃ Y, PCalls Tryz.prog 37 [X, zE x] (.tup [Y, .raw (.int .i64 0)]) ∧ PCalls Tryz.prog 26 [Y, z7 n f] (.raw (.bool true))) := by
    cases hh : zaF n.rules id with
    | false =>
      rw [hh] at hfind
      exact ⟨_, _, _, _, hfind, zfL hrep id hh, .inl ⟨rfl, by simp⟩⟩
    | true =>
      rw [hh, if_pos rfl, zb5 hh] at hfind
      obtain ⟨hi1, hi2⟩ := zib hsrt hh
      have hm : za0 n id ∈ n.rules := List.mem_of_getElem? (zb5 hh)
      have hrx : RuOK (za0 n id) := ⟨hn.rg _ hm, hn.id _ hm⟩
      have hrep2 := zdP hrep hh
      have h1 := zhc hrep2 (za0 n id) hrx (by rw [hi2]; exact zpx hsrt hh)
      unfold zgp at h1
      rw [if_pos (by rw [hi1]; exact hR)] at h1
      have hrep3 := zeH hrep2 hrx (by rw [hi1]; exact hR)
      rw [hi1] at hrep3
      exact ⟨_, _, _, _, hfind, zfh hrep id hh, .inr ⟨rfl, by simp, _, h1, zcK f hrep3⟩⟩
  obtain ⟨X, eI, hins, hI⟩ := hins
  obtain ⟨b, x, Z, eD, hfind, hdel, hD⟩ := hdel
  have hXi := hins.1
  have hZi := hdel.1
  obtain ⟨cL, hcL⟩ : ∃ c, zP (some (zbj n)) = .pp c 0 := ⟨_, rfl⟩
  rw [hcL] at hof hins hdel
  simp only [noIds, AV.ids, z9] at hXi hZi
  clear hrep hcL
  rcases hI with hI | ⟨hI, Y, hI1, hI2⟩ <;> rcases hD with ⟨rfl, hD⟩ | ⟨rfl, hD, W, hD1, hD2⟩
  · (try ((first | with_reducible refine zh ?_ | with_reducible refine zm ?_ | with_reducible refine zo ?_); simp [-cellOK, zr, zC, zs, zA, zz, zB, ze, zab, zaM, hI, hD])); repeat' (first | ((first | refine zd ?_ | refine zg ?_ | refine dN (by decide +kernel) ?_ | refine dC (by decide +kernel) ?_ | refine uP (hfit) ?_ | refine .inl ⟨_, .inl (hfit), ?_⟩ | refine uP (hof) ?_ | refine .inl ⟨_, .inl (hof), ?_⟩ | refine uP (hins) ?_ | refine .inl ⟨_, .inl (hins), ?_⟩ | refine uP (hfind) ?_ | refine .inl ⟨_, .inl (hfind), ?_⟩ | refine uP (hdel) ?_ | refine .inl ⟨_, .inl (hdel), ?_⟩ | refine uP (hal) ?_ | refine .inl ⟨_, .inl (hal), ?_⟩ | (refine za ?_ ?_ <;> (intro hg; simp only [hg])) | fail) <;> simp [-cellOK, zr, zC, zs, zA, zz, zB, ze, zab, zaM, hI, hD]) | refine zf ?_ | refine zc ?_ | (refine zp ?_; simp only [zq]; try simp) | (refine zl (by simp) ?_; simp) | (refine zD (by simp) (by simp [noIds]) (by repeat (first | assumption | exact Ext.refl _ | refine zv ?_ | refine Ext.setF ?_ (by first | assumption | (simp [ze, St.set, zk]; done) | exact zt (by assumption)))) ?_; simp [-cellOK, zr, zC, zs, zA, zz, zB, ze, zab, zaM, hI, hD, zS]) | (refine zb (fun hc => ?_) (fun hc => ?_) <;> try simp at hc) | fail)
  · (try ((first | with_reducible refine zh ?_ | with_reducible refine zm ?_ | with_reducible refine zo ?_); simp [-cellOK, zr, zC, zs, zA, zz, zB, ze, zab, zaM, hI, hD])); repeat' (first | ((first | refine zd ?_ | refine zg ?_ | refine dN (by decide +kernel) ?_ | refine dC (by decide +kernel) ?_ | refine uP (hfit) ?_ | refine .inl ⟨_, .inl (hfit), ?_⟩ | refine uP (hof) ?_ | refine .inl ⟨_, .inl (hof), ?_⟩ | refine uP (hins) ?_ | refine .inl ⟨_, .inl (hins), ?_⟩ | refine uP (hfind) ?_ | refine .inl ⟨_, .inl (hfind), ?_⟩ | refine uP (hdel) ?_ | refine .inl ⟨_, .inl (hdel), ?_⟩ | refine uP (hD1) ?_ | refine .inl ⟨_, .inl (hD1), ?_⟩ | refine uP (hD2) ?_ | refine .inl ⟨_, .inl (hD2), ?_⟩ | refine uP (hal) ?_ | refine .inl ⟨_, .inl (hal), ?_⟩ | (refine za ?_ ?_ <;> (intro hg; simp only [hg])) | fail) <;> simp [-cellOK, zr, zC, zs, zA, zz, zB, ze, zab, zaM, hI, hD]) | refine zf ?_ | refine zc ?_ | (refine zp ?_; simp only [zq]; try simp) | (refine zl (by simp) ?_; simp) | (refine zD (by simp) (by simp [noIds]) (by repeat (first | assumption | exact Ext.refl _ | refine zv ?_ | refine Ext.setF ?_ (by first | assumption | (simp [ze, St.set, zk]; done) | exact zt (by assumption)))) ?_; simp [-cellOK, zr, zC, zs, zA, zz, zB, ze, zab, zaM, hI, hD, zS]) | (refine zb (fun hc => ?_) (fun hc => ?_) <;> try simp at hc) | fail)
  · (try ((first | with_reducible refine zh ?_ | with_reducible refine zm ?_ | with_reducible refine zo ?_); simp [-cellOK, zr, zC, zs, zA, zz, zB, ze, zab, zaM, hI, hD])); repeat' (first | ((first | refine zd ?_ | refine zg ?_ | refine dN (by decide +kernel) ?_ | refine dC (by decide +kernel) ?_ | refine uP (hfit) ?_ | refine .inl ⟨_, .inl (hfit), ?_⟩ | refine uP (hof) ?_ | refine .inl ⟨_, .inl (hof), ?_⟩ | refine uP (hins) ?_ | refine .inl ⟨_, .inl (hins), ?_⟩ | refine uP (hI1) ?_ | refine .inl ⟨_, .inl (hI1), ?_⟩ | refine uP (hI2) ?_ | refine .inl ⟨_, .inl (hI2), ?_⟩ | refine uP (hfind) ?_ | refine .inl ⟨_, .inl (hfind), ?_⟩ | refine uP (hdel) ?_ | refine .inl ⟨_, .inl (hdel), ?_⟩ | refine uP (hal) ?_ | refine .inl ⟨_, .inl (hal), ?_⟩ | (refine za ?_ ?_ <;> (intro hg; simp only [hg])) | fail) <;> simp [-cellOK, zr, zC, zs, zA, zz, zB, ze, zab, zaM, hI, hD]) | refine zf ?_ | refine zc ?_ | (refine zp ?_; simp only [zq]; try simp) | (refine zl (by simp) ?_; simp) | (refine zD (by simp) (by simp [noIds]) (by repeat (first | assumption | exact Ext.refl _ | refine zv ?_ | refine Ext.setF ?_ (by first | assumption | (simp [ze, St.set, zk]; done) | exact zt (by assumption)))) ?_; simp [-cellOK, zr, zC, zs, zA, zz, zB, ze, zab, zaM, hI, hD, zS]) | (refine zb (fun hc => ?_) (fun hc => ?_) <;> try simp at hc) | fail)
  · (try ((first | with_reducible refine zh ?_ | with_reducible refine zm ?_ | with_reducible refine zo ?_); simp [-cellOK, zr, zC, zs, zA, zz, zB, ze, zab, zaM, hI, hD])); repeat' (first | ((first | refine zd ?_ | refine zg ?_ | refine dN (by decide +kernel) ?_ | refine dC (by decide +kernel) ?_ | refine uP (hfit) ?_ | refine .inl ⟨_, .inl (hfit), ?_⟩ | refine uP (hof) ?_ | refine .inl ⟨_, .inl (hof), ?_⟩ | refine uP (hins) ?_ | refine .inl ⟨_, .inl (hins), ?_⟩ | refine uP (hI1) ?_ | refine .inl ⟨_, .inl (hI1), ?_⟩ | refine uP (hI2) ?_ | refine .inl ⟨_, .inl (hI2), ?_⟩ | refine uP (hfind) ?_ | refine .inl ⟨_, .inl (hfind), ?_⟩ | refine uP (hdel) ?_ | refine .inl ⟨_, .inl (hdel), ?_⟩ | refine uP (hD1) ?_ | refine .inl ⟨_, .inl (hD1), ?_⟩ | refine uP (hD2) ?_ | refine .inl ⟨_, .inl (hD2), ?_⟩ | refine uP (hal) ?_ | refine .inl ⟨_, .inl (hal), ?_⟩ | (refine za ?_ ?_ <;> (intro hg; simp only [hg])) | fail) <;> simp [-cellOK, zr, zC, zs, zA, zz, zB, ze, zab, zaM, hI, hD]) | refine zf ?_ | refine zc ?_ | (refine zp ?_; simp only [zq]; try simp) | (refine zl (by simp) ?_; simp) | (refine zD (by simp) (by simp [noIds]) (by repeat (first | assumption | exact Ext.refl _ | refine zv ?_ | refine Ext.setF ?_ (by first | assumption | (simp [ze, St.set, zk]; done) | exact zt (by assumption)))) ?_; simp [-cellOK, zr, zC, zs, zA, zz, zB, ze, zab, zaM, hI, hD, zS]) | (refine zb (fun hc => ?_) (fun hc => ?_) <;> try simp at hc) | fail)
end Go.Proofs.YtanimmdlgmkmkaaGreat.Av
namespace Go.Proofs.YtanimmdlgmkmkaaGreat.Av
open Go
set_option linter.unusedSimpArgs false
set_option linter.unusedVariables false
set_option maxRecDepth 100000
set_option maxHeartbeats 4000000
set_option pp.maxSteps 600
structure Acl where
  del : Bool
  r : Ru
def zkE (p : Acl) : AV := .agg [.raw (.bool p.del), .raw (.int .i64 p.r.id), .raw (.int .i64 p.r.dev), .raw (.int .i64 p.r.prio), .raw (.int .i64 p.r.kind), .raw (.int .u32 p.r.r.lo), .raw (.int .u32 p.r.r.hi), .raw (.int .i64 p.r.port)]
theorem zaU (p : Acl) : (zkE p).cells = [.raw (.bool p.del), .raw (.int .i64 p.r.id), .raw (.int .i64 p.r.dev), .raw (.int .i64 p.r.prio), .raw (.int .i64 p.r.kind), .raw (.int .u32 p.r.r.lo), .raw (.int .u32 p.r.r.hi), .raw (.int .i64 p.r.port)] := rfl
theorem za6 (p : Acl) : AV.agg [.raw (.bool p.del), .raw (.int .i64 p.r.id), .raw (.int .i64 p.r.dev), .raw (.int .i64 p.r.prio), .raw (.int .i64 p.r.kind), .raw (.int .u32 p.r.r.lo), .raw (.int .u32 p.r.r.hi), .raw (.int .i64 p.r.port)] = zkE p := rfl
def zar (l : List Acl) (f : Bool) : AV := .sl 8 (l.map zkE) f
theorem zif (n : Nw) (S : List Acl) (fs : Bool) (hn : NwOK n) (hS : ∀ p ∈ S, RuOK p.r) (hl : S.length < 2 ^ 60) :
    PCalls Tryz.prog 6 [z7 n flN, zar S fs] (.raw (.bool true)) := by
  have hal := zgB
  have hfit := zg5 n flN hn.w
  have hof := zh7 n flN hn
  refine zJ Tryz.func6 rfl (N := 108) rfl rfl (by simp) (by simp [noIds]) fun σ => ?_
  cases hf : zdh n with
  | false =>
    rw [hf] at hfit
    have hids := zb4 (fun _ => False) (ofL n).1
    have hLn : (ofL n).1 = none ∨ ∃ c, zP (ofL n).1 = .pp c 0 := by
      cases (ofL n).1 with
      | none => exact .inl rfl
      | some L => exact .inr ⟨_, rfl⟩
    generalize (ofL n).2 = e at hof
    generalize (ofL n).1 = L at hof hids hLn
    (try ((first | with_reducible refine zh ?_ | with_reducible refine zm ?_ | with_reducible refine zo ?_); simp [-cellOK, zr, zC, zar, zz, zB, ze])); repeat' (first | ((first | refine zd ?_ | refine zg ?_ | refine dN (by decide +kernel) ?_ | refine dC (by decide +kernel) ?_ | refine uP (hfit) ?_ | refine .inl ⟨_, .inl (hfit), ?_⟩ | refine uP (hof) ?_ | refine .inl ⟨_, .inl (hof), ?_⟩ | refine uP (hal) ?_ | refine .inl ⟨_, .inl (hal), ?_⟩ | (refine za ?_ ?_ <;> (intro hg; simp only [hg])) | fail) <;> simp [-cellOK, zr, zC, zar, zz, zB, ze]) | refine zf ?_ | refine zc ?_ | (refine zp ?_; simp only [zq]; try simp) | (refine zl (by simp) ?_; simp) | (refine zD (by simp) (by simp [noIds]) (by repeat (first | assumption | exact Ext.refl _ | refine zv ?_ | refine Ext.setF ?_ (by first | assumption | (simp [ze, St.set, zk]; done) | exact zt (by assumption)))) ?_; simp [-cellOK, zr, zC, zar, zz, zB, ze, zS]) | (refine zb (fun hc => ?_) (fun hc => ?_) <;> try simp at hc) | fail)
  | true =>
  rw [hf] at hfit
  have hR := zhd hf
  have e0 : ofL n = (some (zbj n), 0) := by unfold ofL; rw [hR]; rfl
  rw [e0] at hof
  have hrep := zg7 hn hR
  have hids := zb4 (fun _ => False) (some (zbj n))
  have f2 : σ.m ⟨2, σ.nx 2, 3⟩ = none := zk _ _ _
  obtain ⟨L0, hL0⟩ : ∃ L0, L0 = zbj n := ⟨_, rfl⟩
  rw [← hL0] at hof hrep hids
  obtain ⟨cL, hcL⟩ : ∃ c, zP (some L0) = .pp c 0 := ⟨_, rfl⟩
  rw [hcL] at hof hids
  (try ((first | with_reducible refine zh ?_ | with_reducible refine zm ?_ | with_reducible refine zo ?_); simp [-cellOK, zr, zC, zar, zz, zB, ze])); repeat' (first | ((first | refine zd ?_ | refine zg ?_ | refine dN (by decide +kernel) ?_ | refine dC (by decide +kernel) ?_ | refine uP (hfit) ?_ | refine .inl ⟨_, .inl (hfit), ?_⟩ | refine uP (hof) ?_ | refine .inl ⟨_, .inl (hof), ?_⟩ | (refine za ?_ ?_ <;> (intro hg; simp only [hg])) | fail) <;> simp [-cellOK, zr, zC, zar, zz, zB, ze]) | refine zf ?_ | refine zc ?_ | (refine zp ?_; simp only [zq]; try simp) | (refine zb (fun hc => ?_) (fun hc => ?_) <;> try simp at hc) | fail)
  rw [← hcL]
  clear hcL hL0 hids
  refine zZ (fun n' B ρ => Ext σ ρ ∧ B 1 = zar S fs ∧ B 2 = .rp ⟨2, σ.nx 2, 3⟩ 0 0 ∧ ∃ (i : Nat) (L : Lab) (N : Nw), B 8 = .raw (.int .i64 i) ∧ B 6 = zP (some L) ∧ LabRep L N ∧ ρ.m ⟨2, σ.nx 2, 3⟩ = some (.buf [z7 N flN]) ∧ i ≤ S.length ∧ n' = S.length - i) S.length ?_ ?_
  · exact ⟨(by repeat (first | assumption | exact Ext.refl _ | refine zv ?_ | refine Ext.setF ?_ (by first | assumption | (simp [ze, St.set, zk]; done) | exact zt (by assumption)))), by simp [zar], by simp, 0, L0, n, by simp, by simp, hrep, by simp [zz, zr], by omega, by omega⟩
  clear hof hfit hrep e0 hR hf hn
  rintro n' B ρ ⟨hE, a1, a2, i, L, N, a8, a6, hrep, m2, hi, rfl⟩ I1 hI1
  by_cases hlt : i < S.length ∧ i < 30
  · obtain ⟨hlt, hl30⟩ := hlt
    have hl30' : ((i : Int) < 30) = True := eq_true (by omega)
    have hx : S[i]? = some S[i] := List.getElem?_eq_getElem hlt
    have hrx := hS S[i] (List.getElem_mem hlt)
    obtain ⟨x, hxx⟩ : ∃ x, S[i] = x := ⟨_, rfl⟩
    rw [hxx] at hx hrx
    have w1 : IntKind.i64.wrap ((i : Int) + 1) = ((i + 1 : Nat) : Int) := by rw [zU (by omega) (by omega)]; omega
    have hRN := hrep.right
    have hNok := hrep.ok
    have hsame := zcK flN hrep
    have hI : ∃ (X Y : AV) (eI : Int), PCalls Tryz.prog 37 [zP (some L), zE x.r] (.tup [X, .raw (.int .i64 eI)]) ∧ PCalls Tryz.prog 38 [z7 N flN, zE x.r] (.tup [Y, .raw (.int .i64 eI)]) ∧
        ((eI = 0) = False ∧ X = .raw (.pointer none) ∧ Y = .agg [.sl 0 [] true, .sl 0 [] true, .sl 0 [] true] ∨ (eI = 0) = True ∧ ∃ M N', X = zP (some M) ∧ Y = z7 N' flN ∧ LabRep M N') := by
      have h2 := zht N flN x.r hNok hRN hrx
      unfold zjI at h2
      cases hh : zaF N.rules x.r.id with
      | true =>
        rw [if_pos hh] at h2
        exact ⟨_, _, _, zfj hrep x.r hh, h2, .inl ⟨by simp, rfl, rfl⟩⟩
      | false =>
        have h1 := zhc hrep x.r hrx hh
        rw [if_neg (by simp [hh])] at h2
        unfold zgp at h1
        cases hRi : zaq (zbl N x.r) with
        | false =>
          rw [if_neg (by simp [hRi])] at h1 h2
          exact ⟨_, _, _, h1, h2, .inl ⟨by simp, rfl, rfl⟩⟩
        | true =>
          rw [if_pos hRi] at h1 h2
          exact ⟨_, _, _, h1, h2, .inr ⟨by simp, _, _, rfl, rfl, zeH hrep hrx hRi⟩⟩
    have hD : ∃ (X Y : AV) (eD : Int), PCalls Tryz.prog 39 [zP (some L), .raw (.int .i64 x.r.id)] (.tup [X, .raw (.int .i64 eD)]) ∧ PCalls Tryz.prog 40 [z7 N flN, .raw (.int .i64 x.r.id)] (.tup [Y, .raw (.int .i64 eD)]) ∧
        ((eD = 0) = False ∧ X = .raw (.pointer none) ∧ Y = .agg [.sl 0 [] true, .sl 0 [] true, .sl 0 [] true] ∨ (eD = 0) = True ∧ ∃ M N', X = zP (some M) ∧ Y = z7 N' flN ∧ LabRep M N') := by
      have h2 := zhu N flN x.r.id hNok hRN
      unfold zjJ at h2
      cases hh : zaF N.rules x.r.id with
      | false =>
        rw [if_neg (by simp [hh])] at h2
        exact ⟨_, _, _, zfL hrep x.r.id hh, h2, .inl ⟨by simp, rfl, rfl⟩⟩
      | true =>
        rw [if_pos hh, zod (zcv hRN) hh] at h2
        exact ⟨_, _, _, zfh hrep x.r.id hh, h2, .inr ⟨by simp, _, _, rfl, rfl, zdP hrep hh⟩⟩
    obtain ⟨X, Y, eI, i1, i2, hI⟩ := hI
    obtain ⟨Z, W, eD, d1, d2, hD⟩ := hD
    obtain ⟨cL, hcL⟩ : ∃ c, zP (some L) = .pp c 0 := ⟨_, rfl⟩
    rw [hcL] at a6 i1 d1 hsame
    have nxt : ∀ {A' : zN} {ρ' : St} {M : Lab} {N' : Nw}, Ext σ ρ' → A' 1 = zar S fs → A' 2 = .rp ⟨2, σ.nx 2, 3⟩ 0 0 → A' 8 = .raw (.int .i64 ((i + 1 : Nat) : Int)) → A' 6 = zP (some M) → LabRep M N' → ρ'.m ⟨2, σ.nx 2, 3⟩ = some (.buf [z7 N' flN]) → I1 A' ρ' := fun h1 h2 h3 h4 h5 h6 h7 => hI1 _ _ _ (show S.length - (i + 1) < S.length - i by omega) ⟨h1, h2, h3, i + 1, _, _, h4, h5, h6, h7, by omega, rfl⟩
    clear hI1
    have noop : True := trivial
    cases hxd : x.del with
    | false =>
      rcases hI with ⟨e1, rfl, rfl⟩ | ⟨e1, M, N', rfl, rfl, hrep'⟩
      · have e2 := noop
        (try ((first | with_reducible refine zh ?_ | with_reducible refine zm ?_ | with_reducible refine zo ?_); simp [-cellOK, a1, a2, a6, a8, m2, zar, hlt, hl30', hx, hxx, zaU, za6, zs, zA, zr, zC, hxd, e1, e2, w1, zz, zB, ze])); repeat' (first | ((first | refine zd ?_ | refine zg ?_ | refine dN (by decide +kernel) ?_ | refine dC (by decide +kernel) ?_ | refine uP (i1) ?_ | refine .inl ⟨_, .inl (i1), ?_⟩ | refine uP (i2) ?_ | refine .inl ⟨_, .inl (i2), ?_⟩ | refine uP (hsame) ?_ | refine .inl ⟨_, .inl (hsame), ?_⟩ | (refine za ?_ ?_ <;> (intro hg; simp only [hg])) | fail) <;> simp [-cellOK, a1, a2, a6, a8, m2, zar, hlt, hl30', hx, hxx, zaU, za6, zs, zA, zr, zC, hxd, e1, e2, w1, zz, zB, ze]) | refine zf ?_ | refine zc ?_ | (refine zp ?_; simp only [zq]; try simp) | (refine zl (by simp) ?_; simp) | (refine zD (by simp) (by simp [noIds]) (by repeat (first | assumption | exact Ext.refl _ | refine zv ?_ | refine Ext.setF ?_ (by first | assumption | (simp [ze, St.set, zk]; done) | exact zt (by assumption)))) ?_; simp [-cellOK, a1, a2, a6, a8, m2, zar, hlt, hl30', hx, hxx, zaU, za6, zs, zA, zr, zC, hxd, e1, e2, w1, zz, zB, ze, zS]) | (refine zb (fun hc => ?_) (fun hc => ?_) <;> try simp at hc) | fail)
        exact nxt (by repeat (first | assumption | exact Ext.refl _ | refine zv ?_ | refine Ext.setF ?_ (by first | assumption | (simp [ze, St.set, zk]; done) | exact zt (by assumption)))) (by simp [a1, zar]) (by simp [a2]) (by simp) (by simp [a6, hcL]) hrep (by simp [zz, zB, ze, m2])
      · have e2 := noop
        have hsame' := zcK flN hrep'
        obtain ⟨cM, hcM⟩ : ∃ c, zP (some M) = .pp c 0 := ⟨_, rfl⟩
        rw [hcM] at i1 hsame'
        (try ((first | with_reducible refine zh ?_ | with_reducible refine zm ?_ | with_reducible refine zo ?_); simp [-cellOK, a1, a2, a6, a8, m2, zar, hlt, hl30', hx, hxx, zaU, za6, zs, zA, zr, zC, hxd, e1, e2, w1, zz, zB, ze])); repeat' (first | ((first | refine zd ?_ | refine zg ?_ | refine dN (by decide +kernel) ?_ | refine dC (by decide +kernel) ?_ | refine uP (i1) ?_ | refine .inl ⟨_, .inl (i1), ?_⟩ | refine uP (i2) ?_ | refine .inl ⟨_, .inl (i2), ?_⟩ | refine uP (hsame) ?_ | refine .inl ⟨_, .inl (hsame), ?_⟩ | refine uP (hsame') ?_ | refine .inl ⟨_, .inl (hsame'), ?_⟩ | (refine za ?_ ?_ <;> (intro hg; simp only [hg])) | fail) <;> simp [-cellOK, a1, a2, a6, a8, m2, zar, hlt, hl30', hx, hxx, zaU, za6, zs, zA, zr, zC, hxd, e1, e2, w1, zz, zB, ze]) | refine zf ?_ | refine zc ?_ | (refine zp ?_; simp only [zq]; try simp) | (refine zl (by simp) ?_; simp) | (refine zD (by simp) (by simp [noIds]) (by repeat (first | assumption | exact Ext.refl _ | refine zv ?_ | refine Ext.setF ?_ (by first | assumption | (simp [ze, St.set, zk]; done) | exact zt (by assumption)))) ?_; simp [-cellOK, a1, a2, a6, a8, m2, zar, hlt, hl30', hx, hxx, zaU, za6, zs, zA, zr, zC, hxd, e1, e2, w1, zz, zB, ze, zS]) | (refine zb (fun hc => ?_) (fun hc => ?_) <;> try simp at hc) | fail)
        exact nxt (by repeat (first | assumption | exact Ext.refl _ | refine zv ?_ | refine Ext.setF ?_ (by first | assumption | (simp [ze, St.set, zk]; done) | exact zt (by assumption)))) (by simp [a1, zar]) (by simp [a2]) (by simp) (by simp [hcM]) hrep' (by simp [zz, zB, ze, m2, zC]; rfl)
    | true =>
      rcases hI with ⟨e1, rfl, rfl⟩ | ⟨e1, M, N', rfl, rfl, hrep'⟩
      · rcases hD with ⟨e2, rfl, rfl⟩ | ⟨e2, M2, N2, rfl, rfl, hrep2⟩
        · (try ((first | with_reducible refine zh ?_ | with_reducible refine zm ?_ | with_reducible refine zo ?_); simp [-cellOK, a1, a2, a6, a8, m2, zar, hlt, hl30', hx, hxx, zaU, za6, zs, zA, zr, zC, hxd, e1, e2, w1, zz, zB, ze])); repeat' (first | ((first | refine zd ?_ | refine zg ?_ | refine dN (by decide +kernel) ?_ | refine dC (by decide +kernel) ?_ | refine uP (i1) ?_ | refine .inl ⟨_, .inl (i1), ?_⟩ | refine uP (i2) ?_ | refine .inl ⟨_, .inl (i2), ?_⟩ | refine uP (d1) ?_ | refine .inl ⟨_, .inl (d1), ?_⟩ | refine uP (d2) ?_ | refine .inl ⟨_, .inl (d2), ?_⟩ | refine uP (hsame) ?_ | refine .inl ⟨_, .inl (hsame), ?_⟩ | (refine za ?_ ?_ <;> (intro hg; simp only [hg])) | fail) <;> simp [-cellOK, a1, a2, a6, a8, m2, zar, hlt, hl30', hx, hxx, zaU, za6, zs, zA, zr, zC, hxd, e1, e2, w1, zz, zB, ze]) | refine zf ?_ | refine zc ?_ | (refine zp ?_; simp only [zq]; try simp) | (refine zl (by simp) ?_; simp) | (refine zD (by simp) (by simp [noIds]) (by repeat (first | assumption | exact Ext.refl _ | refine zv ?_ | refine Ext.setF ?_ (by first | assumption | (simp [ze, St.set, zk]; done) | exact zt (by assumption)))) ?_; simp [-cellOK, a1, a2, a6, a8, m2, zar, hlt, hl30', hx, hxx, zaU, za6, zs, zA, zr, zC, hxd, e1, e2, w1, zz, zB, ze, zS]) | (refine zb (fun hc => ?_) (fun hc => ?_) <;> try simp at hc) | fail)
          exact nxt (by repeat (first | assumption | exact Ext.refl _ | refine zv ?_ | refine Ext.setF ?_ (by first | assumption | (simp [ze, St.set, zk]; done) | exact zt (by assumption)))) (by simp [a1, zar]) (by simp [a2]) (by simp) (by simp [a6, hcL]) hrep (by simp [zz, zB, ze, m2])
        · have hsame' := zcK flN hrep2
          obtain ⟨cM, hcM⟩ : ∃ c, zP (some M2) = .pp c 0 := ⟨_, rfl⟩
          rw [hcM] at d1 hsame'
          (try ((first | with_reducible refine zh ?_ | with_reducible refine zm ?_ | with_reducible refine zo ?_); simp [-cellOK, a1, a2, a6, a8, m2, zar, hlt, hl30', hx, hxx, zaU, za6, zs, zA, zr, zC, hxd, e1, e2, w1, zz, zB, ze])); repeat' (first | ((first | refine zd ?_ | refine zg ?_ | refine dN (by decide +kernel) ?_ | refine dC (by decide +kernel) ?_ | refine uP (i1) ?_ | refine .inl ⟨_, .inl (i1), ?_⟩ | refine uP (i2) ?_ | refine .inl ⟨_, .inl (i2), ?_⟩ | refine uP (d1) ?_ | refine .inl ⟨_, .inl (d1), ?_⟩ | refine uP (d2) ?_ | refine .inl ⟨_, .inl (d2), ?_⟩ | refine uP (hsame) ?_ | refine .inl ⟨_, .inl (hsame), ?_⟩ | refine uP (hsame') ?_ | refine .inl ⟨_, .inl (hsame'), ?_⟩ | (refine za ?_ ?_ <;> (intro hg; simp only [hg])) | fail) <;> simp [-cellOK, a1, a2, a6, a8, m2, zar, hlt, hl30', hx, hxx, zaU, za6, zs, zA, zr, zC, hxd, e1, e2, w1, zz, zB, ze]) | refine zf ?_ | refine zc ?_ | (refine zp ?_; simp only [zq]; try simp) | (refine zl (by simp) ?_; simp) | (refine zD (by simp) (by simp [noIds]) (by repeat (first | assumption | exact Ext.refl _ | refine zv ?_ | refine Ext.setF ?_ (by first | assumption | (simp [ze, St.set, zk]; done) | exact zt (by assumption)))) ?_; simp [-cellOK, a1, a2, a6, a8, m2, zar, hlt, hl30', hx, hxx, zaU, za6, zs, zA, zr, zC, hxd, e1, e2, w1, zz, zB, ze, zS]) | (refine zb (fun hc => ?_) (fun hc => ?_) <;> try simp at hc) | fail)
          exact nxt (by repeat (first | assumption | exact Ext.refl _ | refine zv ?_ | refine Ext.setF ?_ (by first | assumption | (simp [ze, St.set, zk]; done) | exact zt (by assumption)))) (by simp [a1, zar]) (by simp [a2]) (by simp) (by simp [hcM]) hrep2 (by simp [zz, zB, ze, m2, zC]; rfl)
      · obtain ⟨cN, hcN⟩ : ∃ c, zP (some M) = .pp c 0 := ⟨_, rfl⟩
        rw [hcN] at i1
        rcases hD with ⟨e2, rfl, rfl⟩ | ⟨e2, M2, N2, rfl, rfl, hrep2⟩
        · (try ((first | with_reducible refine zh ?_ | with_reducible refine zm ?_ | with_reducible refine zo ?_); simp [-cellOK, a1, a2, a6, a8, m2, zar, hlt, hl30', hx, hxx, zaU, za6, zs, zA, zr, zC, hxd, e1, e2, w1, zz, zB, ze])); repeat' (first | ((first | refine zd ?_ | refine zg ?_ | refine dN (by decide +kernel) ?_ | refine dC (by decide +kernel) ?_ | refine uP (i1) ?_ | refine .inl ⟨_, .inl (i1), ?_⟩ | refine uP (i2) ?_ | refine .inl ⟨_, .inl (i2), ?_⟩ | refine uP (d1) ?_ | refine .inl ⟨_, .inl (d1), ?_⟩ | refine uP (d2) ?_ | refine .inl ⟨_, .inl (d2), ?_⟩ | refine uP (hsame) ?_ | refine .inl ⟨_, .inl (hsame), ?_⟩ | (refine za ?_ ?_ <;> (intro hg; simp only [hg])) | fail) <;> simp [-cellOK, a1, a2, a6, a8, m2, zar, hlt, hl30', hx, hxx, zaU, za6, zs, zA, zr, zC, hxd, e1, e2, w1, zz, zB, ze]) | refine zf ?_ | refine zc ?_ | (refine zp ?_; simp only [zq]; try simp) | (refine zl (by simp) ?_; simp) | (refine zD (by simp) (by simp [noIds]) (by repeat (first | assumption | exact Ext.refl _ | refine zv ?_ | refine Ext.setF ?_ (by first | assumption | (simp [ze, St.set, zk]; done) | exact zt (by assumption)))) ?_; simp [-cellOK, a1, a2, a6, a8, m2, zar, hlt, hl30', hx, hxx, zaU, za6, zs, zA, zr, zC, hxd, e1, e2, w1, zz, zB, ze, zS]) | (refine zb (fun hc => ?_) (fun hc => ?_) <;> try simp at hc) | fail)
          exact nxt (by repeat (first | assumption | exact Ext.refl _ | refine zv ?_ | refine Ext.setF ?_ (by first | assumption | (simp [ze, St.set, zk]; done) | exact zt (by assumption)))) (by simp [a1, zar]) (by simp [a2]) (by simp) (by simp [a6, hcL]) hrep (by simp [zz, zB, ze, m2])
        · have hsame' := zcK flN hrep2
          obtain ⟨cM, hcM⟩ : ∃ c, zP (some M2) = .pp c 0 := ⟨_, rfl⟩
          rw [hcM] at d1 hsame'
          (try ((first | with_reducible refine zh ?_ | with_reducible refine zm ?_ | with_reducible refine zo ?_); simp [-cellOK, a1, a2, a6, a8, m2, zar, hlt, hl30', hx, hxx, zaU, za6, zs, zA, zr, zC, hxd, e1, e2, w1, zz, zB, ze])); repeat' (first | ((first | refine zd ?_ | refine zg ?_ | refine dN (by decide +kernel) ?_ | refine dC (by decide +kernel) ?_ | refine uP (i1) ?_ | refine .inl ⟨_, .inl (i1), ?_⟩ | refine uP (i2) ?_ | refine .inl ⟨_, .inl (i2), ?_⟩ | refine uP (d1) ?_ | refine .inl ⟨_, .inl (d1), ?_⟩ | refine uP (d2) ?_ | refine .inl ⟨_, .inl (d2), ?_⟩ | refine uP (hsame) ?_ | refine .inl ⟨_, .inl (hsame), ?_⟩ | refine uP (hsame') ?_ | refine .inl ⟨_, .inl (hsame'), ?_⟩ | (refine za ?_ ?_ <;> (intro hg; simp only [hg])) | fail) <;> simp [-cellOK, a1, a2, a6, a8, m2, zar, hlt, hl30', hx, hxx, zaU, za6, zs, zA, zr, zC, hxd, e1, e2, w1, zz, zB, ze]) | refine zf ?_ | refine zc ?_ | (refine zp ?_; simp only [zq]; try simp) | (refine zl (by simp) ?_; simp) | (refine zD (by simp) (by simp [noIds]) (by repeat (first | assumption | exact Ext.refl _ | refine zv ?_ | refine Ext.setF ?_ (by first | assumption | (simp [ze, St.set, zk]; done) | exact zt (by assumption)))) ?_; simp [-cellOK, a1, a2, a6, a8, m2, zar, hlt, hl30', hx, hxx, zaU, za6, zs, zA, zr, zC, hxd, e1, e2, w1, zz, zB, ze, zS]) | (refine zb (fun hc => ?_) (fun hc => ?_) <;> try simp at hc) | fail)
          exact nxt (by repeat (first | assumption | exact Ext.refl _ | refine zv ?_ | refine Ext.setF ?_ (by first | assumption | (simp [ze, St.set, zk]; done) | exact zt (by assumption)))) (by simp [a1, zar]) (by simp [a2]) (by simp) (by simp [hcM]) hrep2 (by simp [zz, zB, ze, m2, zC]; rfl)
  · clear hI1
    by_cases hlt2 : i < S.length
    · have hl30 : ((i : Int) < 30) = False := eq_false (by omega)
      (try ((first | with_reducible refine zh ?_ | with_reducible refine zm ?_ | with_reducible refine zo ?_); simp [-cellOK, a1, a2, a6, a8, zar, hlt2, hl30])); repeat' (first | ((first | refine zd ?_ | refine zg ?_ | refine dN (by decide +kernel) ?_ | refine dC (by decide +kernel) ?_ | refine uP (hal) ?_ | refine .inl ⟨_, .inl (hal), ?_⟩ | (refine za ?_ ?_ <;> (intro hg; simp only [hg])) | fail) <;> simp [-cellOK, a1, a2, a6, a8, zar, hlt2, hl30]) | refine zf ?_ | refine zc ?_ | (refine zp ?_; simp only [zq]; try simp) | (refine zl (by simp) ?_; simp) | (refine zD (by simp) (by simp [noIds]) (by repeat (first | assumption | exact Ext.refl _ | refine zv ?_ | refine Ext.setF ?_ (by first | assumption | (simp [ze, St.set, zk]; done) | exact zt (by assumption)))) ?_; simp [-cellOK, a1, a2, a6, a8, zar, hlt2, hl30, zS]) | (refine zb (fun hc => ?_) (fun hc => ?_) <;> try simp at hc) | fail)
    · have hl30 : ((i : Int) < S.length) = False := eq_false (by omega)
      have hl31 : (i < S.length) = False := eq_false (by omega)
      (try ((first | with_reducible refine zh ?_ | with_reducible refine zm ?_ | with_reducible refine zo ?_); simp [-cellOK, a1, a2, a6, a8, zar, hl30, hl31])); repeat' (first | ((first | refine zd ?_ | refine zg ?_ | refine dN (by decide +kernel) ?_ | refine dC (by decide +kernel) ?_ | refine uP (hal) ?_ | refine .inl ⟨_, .inl (hal), ?_⟩ | (refine za ?_ ?_ <;> (intro hg; simp only [hg])) | fail) <;> simp [-cellOK, a1, a2, a6, a8, zar, hl30, hl31]) | refine zf ?_ | refine zc ?_ | (refine zp ?_; simp only [zq]; try simp) | (refine zl (by simp) ?_; simp) | (refine zD (by simp) (by simp [noIds]) (by repeat (first | assumption | exact Ext.refl _ | refine zv ?_ | refine Ext.setF ?_ (by first | assumption | (simp [ze, St.set, zk]; done) | exact zt (by assumption)))) ?_; simp [-cellOK, a1, a2, a6, a8, zar, hl30, hl31, zS]) | (refine zb (fun hc => ?_) (fun hc => ?_) <;> try simp at hc) | fail)
end Go.Proofs.YtanimmdlgmkmkaaGreat.Av
