/- Rules: the laws RuleTells, RuleBack, RuleApart, RuleFirst. Part 20 of 22: AvRC, AvRD, AvRE. -/
import Derived.Test.YtckabcbfbpejkaaDoorRx9
import Derived.Test.YtckabcbfbpejkaaDoorRx14
import Derived.Test.YtckabcbfbpejkaaDoorRx19
namespace Go.Proofs.YtckabcbfbpejkaaDoor.Av
open Go
set_option linter.unusedSimpArgs false
set_option linter.unusedVariables false
set_option maxRecDepth 100000
set_option maxHeartbeats 4000000
set_option pp.maxSteps 600
theorem ziJ (x y : List Ru) (fx fy : Bool) (hl : x.length < 2 ^ 60) (hl2 : y.length < 2 ^ 60) : PCalls Tryd.prog 67 [za x fx, za y fy] (.raw (.bool (decide (x = y)))) := by
  refine zM Tryd.func67 rfl (N := 26) rfl rfl (by simp) (by simp [noIds]) fun σ => ?_
  by_cases hlen : x.length = y.length
  · have hli : (x.length : Int) = (y.length : Int) := by omega
    have FF := fI za.eq_1 (fI @hlen @hli); refine goB ?_; clear FF
    refine zao (fun n A τ => τ = σ ∧ A 0 = za x fx ∧ A 1 = za y fy ∧ A 12 = .raw (.int .i64 y.length) ∧ ∃ i : Nat, A 13 = .raw (.int .i64 i) ∧ i ≤ y.length ∧ n = y.length - i ∧ x.take i = y.take i) y.length ?_ ?_
    · exact ⟨rfl, by simp [za], by simp [za], by simp [hlen], 0, by simp, by omega, by omega, by simp⟩
    rintro n A τ ⟨rfl, a0, a1, a12, i, a13, hi, rfl, htk⟩ I1 hI1
    by_cases hlt : i < y.length
    · have hlx : i < x.length := by omega
      have hx : x[i]? = some x[i] := List.getElem?_eq_getElem hlx
      have hy : y[i]? = some y[i] := List.getElem?_eq_getElem hlt
      have w1 : IntKind.i64.wrap ((i : Int) + 1) = ((i + 1 : Nat) : Int) := by rw [zS (by omega) (by omega)]; omega
      by_cases he : x[i] = y[i]
      · skip
        (try ((first | with_reducible refine zu ?_ | with_reducible refine zA ?_ | with_reducible refine zB ?_); simp [za, a0, a1, a12, a13, hlt, hlx, hlen, hx, hy, zb, zf, zbA, zO, -z6, he, w1])); repeat' (first | ((first | refine zn ?_ | refine zr ?_ | refine dN (by decide +kernel) ?_ | (refine zd ?_ ?_ <;> (intro hg; simp only [hg])) | fail) <;> simp [za, a0, a1, a12, a13, hlt, hlx, hlen, hx, hy, zb, zf, zbA, zO, -z6, he, w1]) | refine zp ?_ | refine zl ?_ | (refine zG ?_; simp only [zH]; try simp) | ((first | refine zy (by simp) ?_ | refine zC (by simp) (by simp) (by simp (maxDischargeDepth := 30) [za, a0, a1, a12, a13, hlt, hlx, hlen, hx, hy, zb, zf, zbA, zO, -z6, he, w1]) ?_ | fail); simp) | (refine zg (fun hc => ?_) (fun hc => ?_) <;> try simp at hc) | fail)
        all_goals exact hI1 (y.length - (i + 1)) _ _ (by omega) ⟨rfl, by simp [a0, za], by simp [a1, za], by simp [a12], i + 1, by simp [w1], by omega, rfl, zkn htk hx (by rw [hy, he])⟩
      · skip
        (try ((first | with_reducible refine zu ?_ | with_reducible refine zA ?_ | with_reducible refine zB ?_); simp [za, a0, a1, a12, a13, hlt, hlx, hlen, hx, hy, zb, zf, zbA, zO, -z6, he, w1])); repeat' (first | ((first | refine zn ?_ | refine zr ?_ | refine dN (by decide +kernel) ?_ | (refine zd ?_ ?_ <;> (intro hg; simp only [hg])) | fail) <;> simp [za, a0, a1, a12, a13, hlt, hlx, hlen, hx, hy, zb, zf, zbA, zO, -z6, he, w1]) | refine zp ?_ | refine zl ?_ | (refine zG ?_; simp only [zH]; try simp) | ((first | refine zy (by simp) ?_ | refine zC (by simp) (by simp) (by simp (maxDischargeDepth := 30) [za, a0, a1, a12, a13, hlt, hlx, hlen, hx, hy, zb, zf, zbA, zO, -z6, he, w1]) ?_ | fail); simp) | (refine zg (fun hc => ?_) (fun hc => ?_) <;> try simp at hc) | fail)
        all_goals (rintro rfl; exact he rfl)
    · have : i = y.length := by omega
      subst this
      have hxy : x = y := by
        rw [List.take_length, ← hlen, List.take_length] at htk; exact htk
      have FF := fI za.eq_1 (fI @a0 (fI @a1 (fI @a12 (fI @a13 @hlen)))); refine goB ?_; clear FF
      all_goals first | exact hxy | simp [hxy]
  · have hli : ¬ ((x.length : Int) = (y.length : Int)) := by omega
    have FF := fI za.eq_1 (fI @hlen @hli); refine goB ?_; clear FF
    all_goals (rintro rfl; exact hlen rfl)
theorem zhY (x y : List Ru) (fx fy : Bool) (hl : x.length < 2 ^ 60) (hl2 : y.length < 2 ^ 60) : PCalls Tryd.prog 43 [za x fx, za y fy] (.raw (.bool (decide (x = y)))) := by
  have h := ziJ x y fx fy hl hl2
  generalize decide (x = y) = b at *
  refine zM Tryd.func43 rfl (N := 8) rfl rfl (by simp) (by simp [noIds]) fun σ => ?_
  exact zhN
theorem zhZ (r : Ru) (id : Int) : PCalls Tryd.prog 69 [ze r, .raw (.int .i64 id)] (.raw (.int .i64 (cmpI r.id id))) := by
  have h := zc5 r.id id
  refine zM Tryd.func69 rfl (N := 9) rfl rfl (by simp) (by simp [noIds]) fun σ => ?_
  have FF := @zb; exact gxA
theorem zh0 (l : List Ru) (f : Bool) (id : Int) (hl : l.length < 2 ^ 60) (hs : Srt l) :
    PCalls Tryd.prog 45 [za l f, .raw (.int .i64 id)] (.tup [ze ((zdg l id).getD ru0), .raw (.bool (zdg l id).isSome)]) := by
  have h := zhR 69 (fun r => cmpI r.id id) l f id hl (fun r _ => zhZ r id) (fun i j r s hij hr hs' hc => by
    rw [zgo] at *
    obtain ⟨hi, rfl⟩ := List.getElem?_eq_some_iff.1 hr
    obtain ⟨hj, rfl⟩ := List.getElem?_eq_some_iff.1 hs'
    have := List.pairwise_iff_getElem.1 hs i j hi hj hij
    omega)
  have e : (match l[firstGe (fun r => cmpI r.id id) l]? with | some r => decide (cmpI r.id id = 0) | none => false) = zb4 l id := by
    unfold zb4 zaw
    cases l[firstGe (fun r => cmpI r.id id) l]? with
    | none => rfl
    | some r => simp only [zlJ]
  have h : PCalls Tryd.prog 68 [za l f, .raw (.int .i64 id), .fn (.func 69) [] []] (.tup [.raw (.int .i64 (zaw l id)), .raw (.bool (zb4 l id))]) := by
    rw [← e]; exact h
  rw [zkZ hs id]
  have hlt : zb4 l id = true → zaw l id < l.length := fun hh => by
    unfold zb4 at hh
    cases hx : l[zaw l id]? with
    | none => rw [hx] at hh; cases hh
    | some r => exact (List.getElem?_eq_some_iff.1 hx).1
  refine zM Tryd.func45 rfl (N := 21) rfl rfl (by simp) (by simp [noIds, ze]) fun σ => ?_
  cases hb : zb4 l id with
  | false =>
    rw [hb] at h
    rw [if_neg (by simp)]
    generalize zaw l id = k at *
    unfold ze ru0
    simp only [Option.getD_none, Option.isSome_none]
    have FF := fI @zs (fI @zv @zh); exact gxA
  | true =>
    rw [hb] at h
    have hk := hlt hb
    rw [if_pos rfl]
    clear hlt hb e
    generalize zaw l id = k at *
    rw [List.getElem?_eq_getElem hk]
    obtain ⟨r, hr⟩ : ∃ r, l[k] = r := ⟨_, rfl⟩
    rw [hr]
    simp only [Option.getD_some, Option.isSome_some]
    have hk' : (k : Int) < (l.length : Int) := by omega
    have FF := fI za.eq_1 (fI @hk (fI @hk' (fI @hr (fI ze.eq_1 (fI @zs (fI @zv @zh)))))); exact gxA
def zaQ : List Ru := [⟨1, 0, 5, 0, ⟨0, 99⟩, 2⟩, ⟨2, 0, 9, 1, ⟨50, 59⟩, 0⟩, ⟨3, 0, 1, 3, ⟨70, 79⟩, 0⟩, ⟨4, 0, 5, 0, ⟨0, 9⟩, 1⟩]
theorem zle : PCalls Tryd.prog 58 [] (za zaQ false) := by
  refine zM Tryd.func58 rfl (N := 10) rfl rfl (by simp) (by simp [noIds, za, AV.ids, zt, zaQ, ze]) fun σ => ?_
  refine zqE ?_
  refine zmx (n := 7) (es := zaQ.map ze) (v := .rs ⟨9, σ.nx 9, 7⟩ 0 4) (.inr rfl) (by simp) (OwnL.of rfl (by simp [zs, zaQ, ze]) (zw _ _ _) rfl) (Ext.new _ _ _ _)
def zhx : Bs := [55, 32, 48, 32, 49, 48, 32, 102, 111, 114, 119, 97, 114, 100, 32, 49, 48, 46, 48, 46, 48, 46, 48, 45, 49, 48, 46, 50, 53, 53, 46, 50, 53, 53, 46, 50, 53, 53, 32, 51]
theorem zmP : zhv zeM zhx = some ⟨7, 0, 10, 0, ⟨167772160, 184549375⟩, 3⟩ := by decide +kernel
theorem zmQ : z1 ⟨7, 0, 10, 0, ⟨167772160, 184549375⟩, 3⟩ = zhx := by decide +kernel
theorem zb5 : PCalls Tryd.prog 35 [] (.raw (.bool true)) := by
  have s0 := zle
  have m1 := zbE zaQ false 0 5 (by decide)
  have m2 := zbE zaQ false 0 55 (by decide)
  have m3 := zbE zaQ false 1 55 (by decide)
  have d1 := zct zaQ false 0 75 (by decide)
  have d2 := zct zaQ false 0 5 (by decide)
  have al := zdR zaQ false (by decide)
  have p1 := zdW zhx (by decide)
  have t1 := zbr ⟨7, 0, 10, 0, ⟨167772160, 184549375⟩, 3⟩ ⟨by decide, by decide, by decide⟩
  rw [show zbg zaQ 0 5 = ⟨1, 0, 5, 0, ⟨0, 99⟩, 2⟩ by decide +kernel, show zbz zaQ 0 5 = true by decide +kernel] at m1
  rw [show zbg zaQ 0 55 = ⟨2, 0, 9, 1, ⟨50, 59⟩, 0⟩ by decide +kernel, show zbz zaQ 0 55 = true by decide +kernel] at m2
  rw [show zbg zaQ 1 55 = ⟨0, 0, 0, 0, ⟨0, 0⟩, 0⟩ by decide +kernel, show zbz zaQ 1 55 = false by decide +kernel] at m3
  rw [show zbT zaQ 0 75 = true by decide +kernel] at d1
  rw [show zbT zaQ 0 5 = false by decide +kernel] at d2
  rw [show zb8 zaQ = true by decide +kernel] at al
  rw [zmP, zeO] at p1
  rw [zmQ] at t1
  unfold za at *
  generalize zaQ.map ze = L at *
  unfold ze at *
  unfold zo zF zhx at *
  refine zM Tryd.func35 rfl (N := 73) rfl rfl (by simp) (by simp [noIds]) fun σ => ?_
  have FF := fI @zs (fI @zv @zh); exact gxA
end Go.Proofs.YtckabcbfbpejkaaDoor.Av
namespace Go.Proofs.YtckabcbfbpejkaaDoor.Av
open Go
set_option linter.unusedSimpArgs false
set_option linter.unusedVariables false
set_option maxRecDepth 100000
set_option maxHeartbeats 4000000
set_option pp.maxSteps 600
theorem zbB (a b : Ru) : z6 Tryd.prog .eql 52 (ze a) (ze b) = some (.raw (.bool (decide (a = b)))) := by
  have e1 : ∀ x y : Ru, z6 Tryd.prog .eql 52 (ze x) (ze y) = if Tryd.prog.eqGuardType Tryd.prog.depth 52 = false then (zak Tryd.prog 4 52 (ze x) (ze y)).bind fun b => (za2 .eql b).map .raw else none := fun x y => rfl
  rw [e1, if_pos zmY, zm1]
  rfl
theorem zhy (x y : List Ru) (fx fy : Bool) (hl : x.length < 2932031007403) (hl2 : y.length < 2932031007403) (hid : ∀ r ∈ x, -9223372036854775808 ≤ r.id ∧ r.id < 9223372036854775808) : PCalls Tryd.prog 11 [za x fx, za y fy] (.raw (.bool true)) := by
  have hL := zb5
  have a1 := zdR x fx hl
  have a2 := zjs x fx hl hid
  have s1 := zhY x y fx fy (by omega) (by omega)
  have s2 := zhW x y fx fy (by omega) (by omega)
  generalize zb8 x = ab at *
  generalize decide (x = y) = sb at *
  refine zM Tryd.func11 rfl (N := 49) rfl rfl (by simp) (by simp [noIds]) fun σ => ?_
  by_cases hx : 60 < x.length
  · have hx' : ((60 : Int) < (x.length : Int)) = True := by simp; omega
    unfold za at *
    have FF := @hx'; exact gxA
  · have hx' : ((60 : Int) < (x.length : Int)) = False := by simp; omega
    by_cases hy : 60 < y.length
    · have hy' : ((60 : Int) < (y.length : Int)) = True := by simp; omega
      unfold za at *
      have FF := fI @hx' @hy'; exact gxA
    · have hy' : ((60 : Int) < (y.length : Int)) = False := by simp; omega
      have FF := fI za.eq_1 (fI @hx' @hy'); refine gxC ?_; clear FF
      refine zao (fun n A τ => τ = σ ∧ A 0 = za x fx ∧ A 1 = za y fy ∧ ∃ i : Nat, A 5 = .raw (.int .i64 i) ∧ i ≤ x.length ∧ n = x.length - i) x.length ?_ ?_
      · exact ⟨rfl, by simp [za], by simp [za], 0, by simp, by omega, by omega⟩
      rintro n A τ ⟨rfl, a0, a1', i, a5, hi, rfl⟩ I1 hI1
      by_cases hlt : i < x.length
      · obtain ⟨r, hr⟩ : ∃ r, x[i] = r := ⟨_, rfl⟩
        have hm : r ∈ x := by rw [← hr]; exact List.getElem_mem hlt
        have r1 := zaO r
        have r2 := zc1 r (hid r hm).1 (hid r hm).2
        have w1 : IntKind.i64.wrap ((i : Int) + 1) = ((i + 1 : Nat) : Int) := by rw [zS (by omega) (by omega)]; omega
        generalize zaC r = b at *
        have FF := fI za.eq_1 (fI @a0 (fI @a1' (fI @a5 (fI @hlt (fI @hr (fI @zb (fI @zf @w1))))))); refine gxC ?_; clear FF
        exact hI1 (x.length - (i + 1)) _ _ (by omega) ⟨rfl, by simp [a0, za], by simp [a1', za], i + 1, by simp, by omega, rfl⟩
      · have : i = x.length := by omega
        subst this
        unfold za at *
        have FF := fI @a0 (fI @a1' @a5); exact gxA
theorem zh1 (x y : Ru) (hx : 0 ≤ x.r.lo ∧ x.r.hi < 4294967296) (hy : 0 ≤ y.r.lo ∧ y.r.hi < 4294967296) : PCalls Tryd.prog 9 [ze x, ze y] (.raw (.bool true)) := by
  have hL := zb5
  have r1 := zaO x
  have r2 := zaO y
  refine zM Tryd.func9 rfl (N := 43) rfl rfl (by simp) (by simp [noIds]) fun σ => ?_
  cases hbx : zaC x with
  | false =>
    rw [hbx] at r1
    have FF := fI @zb (fI @zf (fI @zs (fI @zv @zh))); exact gxA
  | true =>
    rw [hbx] at r1
    cases hby : zaC y with
    | false =>
      rw [hby] at r2
      have FF := fI @zb (fI @zf (fI @zs (fI @zv @zh))); exact gxA
    | true =>
      rw [hby] at r2
      have ox : RuOK x := ⟨hbx, hx.1, hx.2⟩
      have oy : RuOK y := ⟨hby, hy.1, hy.2⟩
      have t1 := zbr x ox
      have t2 := zbr y oy
      have p1 := zdW (z1 x) (by have := ziv ox; omega)
      rw [(zfw zeN (z1 x) x).2 ⟨ox, rfl⟩] at p1
      have hq := zdp (z1 x) (z1 y)
      have hxy : decide (z1 x = z1 y) = decide (x = y) := by
        rw [Bool.eq_iff_iff]
        simp only [decide_eq_true_eq]
        exact ⟨fun h => zl5 ox oy h, fun h => by rw [h]⟩
      rw [hxy] at hq
      have p1' : PCalls Tryd.prog 36 [zo (z1 x)] (.tup [ze x, .raw (.int .i64 0)]) := p1
      clear p1 hxy
      unfold zo at *
      generalize zF (z1 x) = X at *
      generalize zF (z1 y) = Y at *
      clear ox oy hbx hby
      (try ((first | with_reducible refine zu ?_ | with_reducible refine zA ?_ | with_reducible refine zB ?_); simp [-cellOK, zb, zf, zeh, zbB, hq, zO, -z6, zs, zv, zh])); repeat' (first | ((first | refine zn ?_ | refine zr ?_ | refine dN (by decide +kernel) ?_ | refine dC (by decide +kernel) ?_ | refine uP (hL) ?_ | refine .inl ⟨_, .inl (hL), ?_⟩ | refine uP (r1) ?_ | refine .inl ⟨_, .inl (r1), ?_⟩ | refine uP (r2) ?_ | refine .inl ⟨_, .inl (r2), ?_⟩ | refine uP (t1) ?_ | refine .inl ⟨_, .inl (t1), ?_⟩ | refine uP (t2) ?_ | refine .inl ⟨_, .inl (t2), ?_⟩ | refine uP (p1') ?_ | refine .inl ⟨_, .inl (p1'), ?_⟩ | (refine zd ?_ ?_ <;> (intro hg; simp only [hg])) | fail) <;> simp [-cellOK, zb, zf, zeh, zbB, hq, zO, -z6, zs, zv, zh]) | refine zp ?_ | refine zl ?_ | (refine zG ?_; simp only [zH]; try simp) | (refine zy (by simp) ?_; simp) | (refine zce (by simp) (by simp [noIds]) (by repeat (first | assumption | exact Ext.refl _ | refine zbu ?_ | refine Ext.setF ?_ (by first | assumption | (simp [zh, St.set, zw]; done) | exact zai (by assumption)))) ?_; simp [-cellOK, zb, zf, zeh, zbB, hq, zO, -z6, zs, zv, zh, nsE]) | (refine zg (fun hc => ?_) (fun hc => ?_) <;> try simp at hc) | fail)
end Go.Proofs.YtckabcbfbpejkaaDoor.Av
namespace Go.Proofs.YtckabcbfbpejkaaDoor.Av
open Go
set_option linter.unusedSimpArgs false
set_option linter.unusedVariables false
set_option maxRecDepth 100000
set_option maxHeartbeats 4000000
set_option pp.maxSteps 600
theorem zhz (l : List Ru) (f : Bool) (d a : Int) (hl : l.length < 2932031007403) : PCalls Tryd.prog 10 [za l f, .raw (.int .i64 d), .raw (.int .u32 a)] (.raw (.bool true)) := by
  have hL := zb5
  have hA := zdR l f hl
  refine zM Tryd.func10 rfl (N := 98) rfl rfl (by simp) (by simp [noIds]) fun σ => ?_
  by_cases hx : 60 < l.length
  · have hx' : ((60 : Int) < (l.length : Int)) = True := by simp; omega
    unfold za at *
    have FF := @hx'; exact gxA
  · have hx' : ((60 : Int) < (l.length : Int)) = False := by simp; omega
    cases hb : zb8 l with
    | false =>
      rw [hb] at hA
      unfold za at *
      have FF := @hx'; exact gxA
    | true =>
      rw [hb] at hA
      unfold za at hA
      have FF := fI za.eq_1 @hx'; refine gxC ?_; clear FF
      refine zao (fun n A τ => Ext σ τ ∧ A 0 = za l f ∧ A 1 = .raw (.int .i64 d) ∧ A 2 = .raw (.int .u32 a) ∧ ∃ (i : Nat) (v : AV), A 7 = v ∧ OwnL σ τ 7 v (((l.take i).filter (zaM d a)).map ze) ∧ A 8 = .raw (.int .i64 i) ∧ i ≤ l.length ∧ n = l.length - i) l.length ?_ ?_
      · exact ⟨Ext.refl _, by simp [za], by simp, by simp, 0, _, rfl, .inl ⟨by simp, by simp⟩, by simp, by omega, by omega⟩
      rintro n A τ ⟨hE, a0, a1, a2, i, v, a7, hO, a8, hi, rfl⟩ I1 hI1
      by_cases hlt : i < l.length
      · obtain ⟨r, hr⟩ : ∃ r, l[i] = r := ⟨_, rfl⟩
        have hr2 : l[i]? = some r := by rw [List.getElem?_eq_getElem hlt, hr]
        have htk : (l.take (i + 1)).filter (zaM d a) = (l.take i).filter (zaM d a) ++ if zaM d a r = true then [r] else [] := by
          rw [List.take_add_one, hr2, List.filter_append]
          cases hp : zaM d a r <;> simp [hp]
        have hfl : ((l.take i).filter (zaM d a)).length ≤ 60 := Nat.le_trans (List.length_filter_le _ _) (by simp; omega)
        have w1 : IntKind.i64.wrap ((i : Int) + 1) = ((i + 1 : Nat) : Int) := by rw [zS (by omega) (by omega)]; omega
        have fin : zaM d a r = false → ∀ A', A' 0 = za l f → A' 1 = .raw (.int .i64 d) → A' 2 = .raw (.int .u32 a) → A' 7 = v → A' 8 = .raw (.int .i64 ((i : Int) + 1)) → I1 A' τ := fun hp A' x0 x1 x2 x7 x8 =>
          hI1 (l.length - (i + 1)) A' τ (by omega) ⟨hE, x0, x1, x2, i + 1, v, x7, by rw [htk, hp]; simpa using hO, by simpa using x8, by omega, rfl⟩
        by_cases c1 : r.dev = d
        · by_cases c2 : r.r.lo ≤ a
          · by_cases c3 : a ≤ r.r.hi
            · have hp : zaM d a r = true := by simp [zaM, c1, c2, c3]
              rw [hp, if_pos rfl] at htk
              have c1' := eq_true c1
              (try ((first | with_reducible refine zu ?_ | with_reducible refine zA ?_ | with_reducible refine zB ?_); simp [-cellOK, za, a0, a1, a2, a7, a8, hlt, hr, c1', c2, c3, zb, zf, -zI])); repeat' (first | ((first | refine zn ?_ | refine zr ?_ | refine dN (by decide +kernel) ?_ | refine dC (by decide +kernel) ?_ | (refine zd ?_ ?_ <;> (intro hg; simp only [hg])) | fail) <;> simp [-cellOK, za, a0, a1, a2, a7, a8, hlt, hr, c1', c2, c3, zb, zf, -zI]) | refine zp ?_ | refine zl ?_ | (refine zG ?_; simp only [zH]; try simp) | (refine zg (fun hc => ?_) (fun hc => ?_) <;> try simp at hc) | fail)
              refine zcq zkT (hO.ext (Ext.new _ _ _ _)) (hE.trans (Ext.new _ _ _ _)) (ys := [ze r]) (by simp) (.inr rfl) (by simp [ze]) (by simp; omega) ?_
              intro v' τ' hO' hE' _ _
              have FF := fI @a0 (fI @a1 (fI @a2 (fI @a7 (fI @a8 @w1)))); refine gxC ?_; clear FF
              exact hI1 (l.length - (i + 1)) _ _ (by omega) ⟨hE', by simp [a0], by simp [a1], by simp [a2], i + 1, v', by simp, by rw [htk]; simpa using hO', by simp, by omega, rfl⟩
            · have hp : zaM d a r = false := by simp [zaM, c1, c2, c3]
              have c1' := eq_true c1
              have fin := fin hp
              have FF := fI za.eq_1 (fI @a0 (fI @a1 (fI @a2 (fI @a7 (fI @a8 (fI @hlt (fI @hr (fI @c1' (fI @c2 (fI @c3 (fI @zb (fI @zf @w1)))))))))))); refine gxC ?_; clear FF
              exact fin _ (by simp [a0]) (by simp [a1]) (by simp [a2]) (by simp [a7]) (by simp)
          · have hp : zaM d a r = false := by simp [zaM, c1, c2]
            have c1' := eq_true c1
            have fin := fin hp
            have FF := fI za.eq_1 (fI @a0 (fI @a1 (fI @a2 (fI @a7 (fI @a8 (fI @hlt (fI @hr (fI @c1' (fI @c2 (fI @zb (fI @zf @w1))))))))))); refine gxC ?_; clear FF
            exact fin _ (by simp [a0]) (by simp [a1]) (by simp [a2]) (by simp [a7]) (by simp)
        · have hp : zaM d a r = false := by simp [zaM, c1]
          have c1' := eq_false c1
          have fin := fin hp
          have FF := fI za.eq_1 (fI @a0 (fI @a1 (fI @a2 (fI @a7 (fI @a8 (fI @hlt (fI @hr (fI @c1' (fI @zb (fI @zf @w1)))))))))); refine gxC ?_; clear FF
          exact fin _ (by simp [a0]) (by simp [a1]) (by simp [a2]) (by simp [a7]) (by simp)
      · have : i = l.length := by omega
        subst this
        rw [List.take_length] at hO
        have hfl : (l.filter (zaM d a)).length ≤ 60 := Nat.le_trans (List.length_filter_le _ _) (by omega)
        obtain ⟨o1, o2, o3⟩ := zlW l d a
        have m1 := zbE l f d a hl
        have m2 := zbE (l.filter (zaM d a)) false d a (by omega)
        have d1 := zct l f d a hl
        have d2 := zct (l.filter (zaM d a)) false d a (by omega)
        rw [o1, o2] at m2
        rw [o3] at d2
        subst a7
        refine zkQ 7 hO hE fun A' τ' hE' b7 kp _ _ _ _ => ?_
        have b0 : A' 0 = za l f := (kp 0 (by decide) (by rw [a0]; rfl)).trans a0
        have b1 : A' 1 = .raw (.int .i64 d) := (kp 1 (by decide) (by rw [a1]; rfl)).trans a1
        have b2 : A' 2 = .raw (.int .u32 a) := (kp 2 (by decide) (by rw [a2]; rfl)).trans a2
        have b8 : A' 8 = .raw (.int .i64 l.length) := (kp 8 (by decide) (by rw [a8]; rfl)).trans a8
        generalize zbg l d a = m at *
        generalize zbz l d a = mb at *
        generalize zbT l d a = db at *
        unfold za at *
        generalize (l.filter (zaM d a)).map ze = L2 at *
        clear o1 o2 o3 kp
        (try ((first | with_reducible refine zu ?_ | with_reducible refine zA ?_ | with_reducible refine zB ?_); simp [-cellOK, b0, b1, b2, b7, b8, zb, zf, zeh, zbB, zO, -z6, zs, zv, zh])); repeat' (first | ((first | refine zn ?_ | refine zr ?_ | refine dN (by decide +kernel) ?_ | refine dC (by decide +kernel) ?_ | refine uP (hL) ?_ | refine .inl ⟨_, .inl (hL), ?_⟩ | refine uP (m1) ?_ | refine .inl ⟨_, .inl (m1), ?_⟩ | refine uP (m2) ?_ | refine .inl ⟨_, .inl (m2), ?_⟩ | refine uP (d1) ?_ | refine .inl ⟨_, .inl (d1), ?_⟩ | refine uP (d2) ?_ | refine .inl ⟨_, .inl (d2), ?_⟩ | (refine zd ?_ ?_ <;> (intro hg; simp only [hg])) | fail) <;> simp [-cellOK, b0, b1, b2, b7, b8, zb, zf, zeh, zbB, zO, -z6, zs, zv, zh]) | refine zp ?_ | refine zl ?_ | (refine zG ?_; simp only [zH]; try simp) | (refine zy (by simp) ?_; simp) | (refine zce (by simp) (by simp [noIds]) (by repeat (first | assumption | exact Ext.refl _ | refine zbu ?_ | refine Ext.setF ?_ (by first | assumption | (simp [zh, St.set, zw]; done) | exact zai (by assumption)))) ?_; simp [-cellOK, b0, b1, b2, b7, b8, zb, zf, zeh, zbB, zO, -z6, zs, zv, zh, nsE]) | (refine zg (fun hc => ?_) (fun hc => ?_) <;> try simp at hc) | fail)
theorem zhA (l : List Ru) (f : Bool) (d a : Int) (hl : l.length < 2932031007403) : PCalls Tryd.prog 12 [za l f, .raw (.int .i64 d), .raw (.int .u32 a)] (.raw (.bool true)) := by
  have hL := zb5
  have hA := zdR l f hl
  refine zM Tryd.func12 rfl (N := 118) rfl rfl (by simp) (by simp [noIds]) fun σ => ?_
  by_cases hx : 60 < l.length
  · have hx' : ((60 : Int) < (l.length : Int)) = True := by simp; omega
    unfold za at *
    have FF := @hx'; exact gxA
  · have hx' : ((60 : Int) < (l.length : Int)) = False := by simp; omega
    cases hb : zb8 l with
    | false =>
      rw [hb] at hA
      unfold za at *
      have FF := @hx'; exact gxA
    | true =>
      rw [hb] at hA
      obtain ⟨hB, hS⟩ := zmE hb
      have m1 := zbE l f d a hl
      obtain ⟨m, hm⟩ : ∃ m, zbg l d a = m := ⟨_, rfl⟩
      obtain ⟨mb, hmb⟩ : ∃ mb, zbz l d a = mb := ⟨_, rfl⟩
      rw [hm, hmb] at m1
      have hmin : ∀ r ∈ l, zaL d a r = true → zaF r m = false := fun r hr hp => by
        have hne : l.filter (zaL d a) ≠ [] := fun e => by rw [List.filter_eq_nil_iff] at e; exact e r hr hp
        rw [← hm]
        exact (zjA hne).2 r (List.mem_filter.2 ⟨hr, hp⟩)
      have hmem : mb = true → m ∈ l ∧ m.dev = d := fun e => by
        have hne : l.filter (zaL d a) ≠ [] := fun e' => by
          rw [← hmb] at e
          unfold zbz at e
          rw [zcv, e'] at e
          simp at e
        have h := (zjA hne).1
        have h : m ∈ l.filter (zaL d a) := by rw [← hm]; exact h
        obtain ⟨h1, h2⟩ := List.mem_filter.1 h
        refine ⟨h1, ?_⟩
        unfold zaL zcr at h2
        simp only [Bool.and_eq_true, decide_eq_true_eq] at h2
        exact h2.2.1
      have hF := zh0 l f m.id (by omega) hS
      have hput : ∀ r s : Ru, setPart (ze r) 0 (ze s).cells = ze s := fun _ _ => rfl
      unfold za at hA
      unfold za at m1 hF
      have FF := fI za.eq_1 (fI @hx' (fI @zaz (fI @zap (fI @zb (fI @zf (fI @zaP (fI @zs (fI @zv @zh)))))))); refine gxC ?_; clear FF
      refine zao (fun n A τ => Ext σ τ ∧ A 0 = za l f ∧ A 1 = .raw (.int .i64 d) ∧ A 2 = .raw (.int .u32 a) ∧ A 7 = .rp ⟨7, σ.nx 7, 7⟩ 0 0 ∧ τ.m ⟨7, σ.nx 7, 7⟩ = some (.buf [ze m]) ∧ A 8 = .raw (.bool mb) ∧ ∃ i : Nat, A 9 = .raw (.bool ((l.take i).any (zaL d a))) ∧ A 10 = .raw (.int .i64 i) ∧ i ≤ l.length ∧ n = l.length - i) l.length ?_ ?_
      · exact ⟨(by exact exA), by simp [za], by simp, by simp, by simp, by simp [zv, zs], by simp, 0, by simp, by simp, by omega, by omega⟩
      rintro n A τ ⟨hE, a0, a1, a2, a7, m7, a8, i, a9, a10, hi, rfl⟩ I1 hI1
      by_cases hlt : i < l.length
      · obtain ⟨r, hr⟩ : ∃ r, l[i] = r := ⟨_, rfl⟩
        have hr2 : l[i]? = some r := by rw [List.getElem?_eq_getElem hlt, hr]
        have hrm : r ∈ l := by rw [← hr]; exact List.getElem_mem hlt
        have hk := hB r hrm
        have hk2 : 0 ≤ r.kind ∧ r.kind ≤ 3 := by have := hk; unfold zaC at this; simp only [Bool.and_eq_true, decide_eq_true_eq] at this; exact this.1.1.1.2
        have htk : (l.take (i + 1)).any (zaL d a) = ((l.take i).any (zaL d a) || zaL d a r) := by
          rw [List.take_add_one, hr2, List.any_append]; simp
        have w1 : IntKind.i64.wrap ((i : Int) + 1) = ((i + 1 : Nat) : Int) := by rw [zS (by omega) (by omega)]; omega
        have f7 : (⟨7, σ.nx 7, 7⟩ : Id) ≠ ⟨11, τ.nx 11, 7⟩ := by simp
        obtain ⟨tb, htb⟩ : ∃ tb, (l.take i).any (zaL d a) = tb := ⟨_, rfl⟩
        rw [htb] at a9 htk
        have fin : ∀ b, zaL d a r = b → ∀ A' τ', Ext σ τ' → A' 0 = za l f → A' 1 = .raw (.int .i64 d) → A' 2 = .raw (.int .u32 a) → A' 7 = .rp ⟨7, σ.nx 7, 7⟩ 0 0 → τ'.m ⟨7, σ.nx 7, 7⟩ = some (.buf [ze m]) → A' 8 = .raw (.bool mb) → A' 9 = .raw (.bool (tb || b)) → A' 10 = .raw (.int .i64 ((i : Int) + 1)) → I1 A' τ' := fun b hp A' τ' xE x0 x1 x2 x7 x7m x8 x9 x10 =>
          hI1 (l.length - (i + 1)) A' τ' (by omega) ⟨xE, x0, x1, x2, x7, x7m, x8, i + 1, by rw [htk, hp]; exact x9, by simpa using x10, by omega, rfl⟩
        have g1 : r.dev = d ∨ ¬ r.dev = d := by omega
        have g2 : a < r.r.lo ∨ ¬ a < r.r.lo := by omega
        have g3 : r.r.hi < a ∨ ¬ r.r.hi < a := by omega
        have g4 : r.kind = 2 ∨ ¬ r.kind = 2 := by omega
        have g5 : r.kind = 3 ∨ ¬ r.kind = 3 := by omega
        have no : ∀ (h : ¬ (r.dev = d ∧ ¬ a < r.r.lo ∧ ¬ r.r.hi < a ∧ ¬ r.kind = 2 ∧ ¬ r.kind = 3)), zaL d a r = false := fun h => by
          rw [Bool.eq_false_iff]
          intro e
          unfold zaL zcr at e
          simp only [Bool.and_eq_true, decide_eq_true_eq] at e
          exact h ⟨e.2.1, by omega, by omega, by omega, by omega⟩
        rcases g1 with g1 | g1
        · have g1' := eq_true g1
          rcases g2 with g2 | g2
          · have fin := fin false (no fun h => h.2.1 g2)
            have FF := fI za.eq_1 (fI @a0 (fI @a1 (fI @a2 (fI @a7 (fI @m7 (fI @a8 (fI @a9 (fI @a10 (fI @hlt (fI @hr (fI @g1' (fI @g2 (fI @zaz (fI @zap (fI @zb (fI @zf (fI @zaP (fI @w1 (fI @zs (fI @zv @zh)))))))))))))))))))); refine gxC ?_; clear FF
            exact fin _ _ (by exact exA) (by simp [a0]) (by simp [a1]) (by simp [a2]) (by simp [a7]) (by simp [zv, zs, m7]) (by simp [a8]) (by simp [a9]) (by simp)
          · rcases g3 with g3 | g3
            · have fin := fin false (no fun h => h.2.2.1 g3)
              have FF := fI za.eq_1 (fI @a0 (fI @a1 (fI @a2 (fI @a7 (fI @m7 (fI @a8 (fI @a9 (fI @a10 (fI @hlt (fI @hr (fI @g1' (fI @g2 (fI @g3 (fI @zaz (fI @zap (fI @zb (fI @zf (fI @zaP (fI @w1 (fI @zs (fI @zv @zh))))))))))))))))))))); refine gxC ?_; clear FF
              exact fin _ _ (by exact exA) (by simp [a0]) (by simp [a1]) (by simp [a2]) (by simp [a7]) (by simp [zv, zs, m7]) (by simp [a8]) (by simp [a9]) (by simp)
            · rcases g4 with g4 | g4
              · have fin := fin false (no fun h => h.2.2.2.1 g4)
                have g4' := eq_true g4
                have FF := fI za.eq_1 (fI @a0 (fI @a1 (fI @a2 (fI @a7 (fI @m7 (fI @a8 (fI @a9 (fI @a10 (fI @hlt (fI @hr (fI @g1' (fI @g2 (fI @g3 (fI @g4' (fI @zaz (fI @zap (fI @zb (fI @zf (fI @zaP (fI @w1 (fI @zs (fI @zv @zh)))))))))))))))))))))); refine gxC ?_; clear FF
                exact fin _ _ (by exact exA) (by simp [a0]) (by simp [a1]) (by simp [a2]) (by simp [a7]) (by simp [zv, zs, m7]) (by simp [a8]) (by simp [a9]) (by simp)
              · have g4' := eq_false g4
                rcases g5 with g5 | g5
                · have fin := fin false (no fun h => h.2.2.2.2 g5)
                  have g5' := eq_true g5
                  have FF := fI za.eq_1 (fI @a0 (fI @a1 (fI @a2 (fI @a7 (fI @m7 (fI @a8 (fI @a9 (fI @a10 (fI @hlt (fI @hr (fI @g1' (fI @g2 (fI @g3 (fI @g4' (fI @g5' (fI @zaz (fI @zap (fI @zb (fI @zf (fI @zaP (fI @w1 (fI @zs (fI @zv @zh))))))))))))))))))))))); refine gxC ?_; clear FF
                  exact fin _ _ (by exact exA) (by simp [a0]) (by simp [a1]) (by simp [a2]) (by simp [a7]) (by simp [zv, zs, m7]) (by simp [a8]) (by simp [a9]) (by simp)
                · have g5' := eq_false g5
                  have hp : zaL d a r = true := by
                    unfold zaL zcr
                    simp only [Bool.and_eq_true, decide_eq_true_eq]
                    exact ⟨by omega, g1, by omega, by omega⟩
                  have hbt := hmin r hrm hp
                  have fin := fin true hp
                  have p1 : ¬ m.prio < r.prio := fun h => by unfold zaF at hbt; simp [h] at hbt
                  have p1' := eq_false p1
                  have g6 : r.prio = m.prio ∨ ¬ r.prio = m.prio := by omega
                  rcases g6 with g6 | g6
                  · have p2 : ¬ r.id < m.id := fun h => by unfold zaF at hbt; simp [g6, h] at hbt
                    have p2' := eq_false p2
                    have g6' := eq_true g6
                    have FF := fI za.eq_1 (fI @a0 (fI @a1 (fI @a2 (fI @a7 (fI @m7 (fI @a8 (fI @a9 (fI @a10 (fI @hlt (fI @hr (fI @g1' (fI @g2 (fI @g3 (fI @g4' (fI @g5' (fI @p1' (fI @g6' (fI @p2' (fI @zaz (fI @zap (fI @zb (fI @zf (fI @zaP (fI @w1 (fI @zs (fI @zv @zh)))))))))))))))))))))))))); refine gxC ?_; clear FF
                    exact fin _ _ (by exact exA) (by simp [a0]) (by simp [a1]) (by simp [a2]) (by simp [a7]) (by simp [zv, zs, m7]) (by simp [a8]) (by simp) (by simp)
                  · have g6' := eq_false g6
                    have FF := fI za.eq_1 (fI @a0 (fI @a1 (fI @a2 (fI @a7 (fI @m7 (fI @a8 (fI @a9 (fI @a10 (fI @hlt (fI @hr (fI @g1' (fI @g2 (fI @g3 (fI @g4' (fI @g5' (fI @p1' (fI @g6' (fI @zaz (fI @zap (fI @zb (fI @zf (fI @zaP (fI @w1 (fI @zs (fI @zv @zh))))))))))))))))))))))))); refine gxC ?_; clear FF
                    exact fin _ _ (by exact exA) (by simp [a0]) (by simp [a1]) (by simp [a2]) (by simp [a7]) (by simp [zv, zs, m7]) (by simp [a8]) (by simp) (by simp)
        · have g1' := eq_false g1
          have fin := fin false (no fun h => g1 h.1)
          have FF := fI za.eq_1 (fI @a0 (fI @a1 (fI @a2 (fI @a7 (fI @m7 (fI @a8 (fI @a9 (fI @a10 (fI @hlt (fI @hr (fI @g1' (fI @zaz (fI @zap (fI @zb (fI @zf (fI @zaP (fI @w1 (fI @zs (fI @zv @zh))))))))))))))))))); refine gxC ?_; clear FF
          exact fin _ _ (by exact exA) (by simp [a0]) (by simp [a1]) (by simp [a2]) (by simp [a7]) (by simp [zv, zs, m7]) (by simp [a8]) (by simp [a9]) (by simp)
      · have : i = l.length := by omega
        subst this
        rw [List.take_length] at a9
        have : l.any (zaL d a) = mb := hmb
        rw [this] at a9
        cases hmt : mb with
        | false =>
          subst hmt
          generalize (zdg l m.id).getD ru0 = y at *
          generalize (zdg l m.id).isSome = yb at *
          (try ((first | with_reducible refine zu ?_ | with_reducible refine zA ?_ | with_reducible refine zB ?_); simp [-cellOK, za, a0, a1, a2, a7, m7, a8, a9, a10, zaz, zap, zb, zf, zaP, zbB, zO, -z6, zs, zv, zh])); repeat' (first | ((first | refine zn ?_ | refine zr ?_ | refine dN (by decide +kernel) ?_ | refine dC (by decide +kernel) ?_ | refine uP (hL) ?_ | refine .inl ⟨_, .inl (hL), ?_⟩ | refine uP (hF) ?_ | refine .inl ⟨_, .inl (hF), ?_⟩ | (refine zd ?_ ?_ <;> (intro hg; simp only [hg])) | fail) <;> simp [-cellOK, za, a0, a1, a2, a7, m7, a8, a9, a10, zaz, zap, zb, zf, zaP, zbB, zO, -z6, zs, zv, zh]) | refine zp ?_ | refine zl ?_ | (refine zG ?_; simp only [zH]; try simp) | (refine zy (by simp) ?_; simp) | (refine zce (by simp) (by simp [noIds]) (by repeat (first | assumption | exact Ext.refl _ | refine zbu ?_ | refine Ext.setF ?_ (by first | assumption | (simp [zh, St.set, zw]; done) | exact zai (by assumption)))) ?_; simp [-cellOK, za, a0, a1, a2, a7, m7, a8, a9, a10, zaz, zap, zb, zf, zaP, zbB, zO, -z6, zs, zv, zh, nsE]) | (refine zg (fun hc => ?_) (fun hc => ?_) <;> try simp at hc) | fail)
        | true =>
          subst hmt
          obtain ⟨q1, q2⟩ := hmem rfl
          rw [zlV hS q1] at hF
          simp only [Option.getD_some, Option.isSome_some] at hF
          have q2' := eq_true q2
          (try ((first | with_reducible refine zu ?_ | with_reducible refine zA ?_ | with_reducible refine zB ?_); simp [-cellOK, za, a0, a1, a2, a7, m7, a8, a9, a10, q2', zaz, zap, zb, zf, zaP, zbB, zO, -z6, zs, zv, zh])); repeat' (first | ((first | refine zn ?_ | refine zr ?_ | refine dN (by decide +kernel) ?_ | refine dC (by decide +kernel) ?_ | refine uP (hL) ?_ | refine .inl ⟨_, .inl (hL), ?_⟩ | refine uP (hF) ?_ | refine .inl ⟨_, .inl (hF), ?_⟩ | (refine zd ?_ ?_ <;> (intro hg; simp only [hg])) | fail) <;> simp [-cellOK, za, a0, a1, a2, a7, m7, a8, a9, a10, q2', zaz, zap, zb, zf, zaP, zbB, zO, -z6, zs, zv, zh]) | refine zp ?_ | refine zl ?_ | (refine zG ?_; simp only [zH]; try simp) | (refine zy (by simp) ?_; simp) | (refine zce (by simp) (by simp [noIds]) (by repeat (first | assumption | exact Ext.refl _ | refine zbu ?_ | refine Ext.setF ?_ (by first | assumption | (simp [zh, St.set, zw]; done) | exact zai (by assumption)))) ?_; simp [-cellOK, za, a0, a1, a2, a7, m7, a8, a9, a10, q2', zaz, zap, zb, zf, zaP, zbB, zO, -z6, zs, zv, zh, nsE]) | (refine zg (fun hc => ?_) (fun hc => ?_) <;> try simp at hc) | fail)
end Go.Proofs.YtckabcbfbpejkaaDoor.Av
