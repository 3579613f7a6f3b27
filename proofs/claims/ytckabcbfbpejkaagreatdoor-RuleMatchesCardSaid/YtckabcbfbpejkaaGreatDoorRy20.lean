/- Rules: the laws RuleTexts, RuleMatches. Part 20 of 22: AvRC, AvRD, AvRE, AvRF, AvRG, AvRH. -/
import Derived.Test.YtckabcbfbpejkaaGreatDoorRy9
import Derived.Test.YtckabcbfbpejkaaGreatDoorRy14
import Derived.Test.YtckabcbfbpejkaaGreatDoorRy19
namespace Go.Proofs.YtckabcbfbpejkaaGreatDoor.Av
open Go
set_option linter.unusedSimpArgs false
set_option linter.unusedVariables false
set_option maxRecDepth 100000
set_option maxHeartbeats 4000000
set_option pp.maxSteps 600
theorem ziy (r : Ru) (id : Int) : PCalls Tryz.prog 39 [zc r, .raw (.int .i64 id)] (.raw (.int .i64 (cmpI r.id id))) := by
  have h := zdp r.id id
  refine zD Tryz.func39 rfl (N := 9) rfl rfl (by simp) (by simp [noIds]) fun σ => ?_
  have FF := @zg; exact zJ
theorem ziz (l : List Ru) (f : Bool) (id : Int) (hl : l.length < 2 ^ 60) (hs : Srt l) :
    PCalls Tryz.prog 12 [za l f, .raw (.int .i64 id)] (.tup [zc ((zbs l id).getD ru0), .raw (.bool (zbs l id).isSome)]) := by
  have h := zin 39 (fun r => cmpI r.id id) l f id hl (fun r _ => ziy r id) (fun i j r s hij hr hs' hc => by
    rw [zg5] at *
    obtain ⟨hi, rfl⟩ := List.getElem?_eq_some_iff.1 hr
    obtain ⟨hj, rfl⟩ := List.getElem?_eq_some_iff.1 hs'
    have := List.pairwise_iff_getElem.1 hs i j hi hj hij
    omega)
  have e : (match l[firstGe (fun r => cmpI r.id id) l]? with | some r => decide (cmpI r.id id = 0) | none => false) = zcm l id := by
    unfold zcm zaK
    cases l[firstGe (fun r => cmpI r.id id) l]? with
    | none => rfl
    | some r => simp only [zmF]
  have h : PCalls Tryz.prog 38 [za l f, .raw (.int .i64 id), .fn (.func 39) [] []] (.tup [.raw (.int .i64 (zaK l id)), .raw (.bool (zcm l id))]) := by
    rw [← e]; exact h
  rw [zlT hs id]
  have hlt : zcm l id = true → zaK l id < l.length := fun hh => by
    unfold zcm at hh
    cases hx : l[zaK l id]? with
    | none => rw [hx] at hh; cases hh
    | some r => exact (List.getElem?_eq_some_iff.1 hx).1
  refine zD Tryz.func12 rfl (N := 21) rfl rfl (by simp) (by simp [noIds, zc]) fun σ => ?_
  cases hb : zcm l id with
  | false =>
    rw [hb] at h
    rw [if_neg (by simp)]
    generalize zaK l id = k at *
    unfold zc ru0
    simp only [Option.getD_none, Option.isSome_none]
    have FF := fI @zl (fI @zo @zb); exact zJ
  | true =>
    rw [hb] at h
    have hk := hlt hb
    rw [if_pos rfl]
    clear hlt hb e
    generalize zaK l id = k at *
    rw [List.getElem?_eq_getElem hk]
    obtain ⟨r, hr⟩ : ∃ r, l[k] = r := ⟨_, rfl⟩
    rw [hr]
    simp only [Option.getD_some, Option.isSome_some]
    have hk' : (k : Int) < (l.length : Int) := by omega
    have FF := fI za.eq_1 (fI @hk (fI @hk' (fI @hr (fI zc.eq_1 (fI @zl (fI @zo @zb)))))); exact zJ
def za0 : List Ru := [⟨1, 0, 5, 0, ⟨0, 99⟩, 2⟩, ⟨2, 0, 9, 1, ⟨50, 59⟩, 0⟩, ⟨3, 0, 1, 3, ⟨70, 79⟩, 0⟩, ⟨4, 0, 5, 0, ⟨0, 9⟩, 1⟩]
theorem zma : PCalls Tryz.prog 28 [] (za za0 false) := by
  refine zD Tryz.func28 rfl (N := 10) rfl rfl (by simp) (by simp [noIds, za, AV.ids, zx, za0, zc]) fun σ => ?_
  refine zoZ ?_
  refine zfd (n := 7) (es := za0.map zc) (v := .rs ⟨9, σ.nx 9, 7⟩ 0 4) (.inr rfl) (by simp) (OwnL.of rfl (by simp [zl, za0, zc]) (zu _ _ _) rfl) (Ext.new _ _ _ _)
def zh8 : Bs := [55, 32, 48, 32, 49, 48, 32, 102, 111, 114, 119, 97, 114, 100, 32, 49, 48, 46, 48, 46, 48, 46, 48, 45, 49, 48, 46, 50, 53, 53, 46, 50, 53, 53, 46, 50, 53, 53, 32, 51]
theorem znK : zco zem zh8 = some ⟨7, 0, 10, 0, ⟨167772160, 184549375⟩, 3⟩ := by decide +kernel
theorem znL : zV ⟨7, 0, 10, 0, ⟨167772160, 184549375⟩, 3⟩ = zh8 := by decide +kernel
theorem zfz : PCalls Tryz.prog 8 [] (.raw (.bool true)) := by
  have s0 := zma
  have m1 := zda za0 false 0 5 (by decide)
  have m2 := zda za0 false 0 55 (by decide)
  have m3 := zda za0 false 1 55 (by decide)
  have d1 := zd6 za0 false 0 75 (by decide)
  have d2 := zd6 za0 false 0 5 (by decide)
  have al := zmE za0 false (by decide)
  have p1 := zeo zh8 (by decide)
  have t1 := zbE ⟨7, 0, 10, 0, ⟨167772160, 184549375⟩, 3⟩ ⟨by decide, by decide, by decide⟩
  rw [show zb5 za0 0 5 = ⟨1, 0, 5, 0, ⟨0, 99⟩, 2⟩ by decide +kernel, show zdl za0 0 5 = true by decide +kernel] at m1
  rw [show zb5 za0 0 55 = ⟨2, 0, 9, 1, ⟨50, 59⟩, 0⟩ by decide +kernel, show zdl za0 0 55 = true by decide +kernel] at m2
  rw [show zb5 za0 1 55 = ⟨0, 0, 0, 0, ⟨0, 0⟩, 0⟩ by decide +kernel, show zdl za0 1 55 = false by decide +kernel] at m3
  rw [show zcy za0 0 75 = true by decide +kernel] at d1
  rw [show zcy za0 0 5 = false by decide +kernel] at d2
  rw [show zbY za0 = true by decide +kernel] at al
  rw [znK, zcS] at p1
  rw [znL] at t1
  unfold za at *
  generalize za0.map zc = L at *
  unfold zc at *
  unfold ze zf zh8 at *
  refine zD Tryz.func8 rfl (N := 73) rfl rfl (by simp) (by simp [noIds]) fun σ => ?_
  have FF := fI @zl (fI @zo @zb); exact zJ
end Go.Proofs.YtckabcbfbpejkaaGreatDoor.Av
namespace Go.Proofs.YtckabcbfbpejkaaGreatDoor.Av
open Go
set_option linter.unusedSimpArgs false
set_option linter.unusedVariables false
set_option maxRecDepth 100000
set_option maxHeartbeats 4000000
set_option pp.maxSteps 600
theorem zcT (a b : Ru) : zaB Tryz.prog .eql 27 (zc a) (zc b) = some (.raw (.bool (decide (a = b)))) := by
  have e1 : ∀ x y : Ru, zaB Tryz.prog .eql 27 (zc x) (zc y) = if Tryz.prog.eqGuardType Tryz.prog.depth 27 = false then (zaq Tryz.prog 4 27 (zc x) (zc y)).bind fun b => (zbc .eql b).map .raw else none := fun x y => rfl
  rw [e1, if_pos znS, znV]
  rfl
end Go.Proofs.YtckabcbfbpejkaaGreatDoor.Av
namespace Go.Proofs.YtckabcbfbpejkaaGreatDoor.Av
open Go
set_option linter.unusedSimpArgs false
set_option linter.unusedVariables false
set_option maxRecDepth 100000
set_option maxHeartbeats 4000000
set_option pp.maxSteps 600
end Go.Proofs.YtckabcbfbpejkaaGreatDoor.Av
namespace Go.Proofs.YtckabcbfbpejkaaGreatDoor.Av
open Go
set_option linter.unusedSimpArgs false
set_option linter.unusedVariables false
set_option maxRecDepth 100000
set_option maxHeartbeats 4000000
set_option pp.maxSteps 600
theorem zbZ (N : Nat) (hN : N < 9223372036854775808) : PCalls Tryz.prog 25 [.raw (.int .i64 N)] (ze (zz N)) := by
  refine zD Tryz.func25 rfl (N := 21) rfl rfl (by simp) (by simp [noIds]) fun σ => ?_
  have hl20 := zaM N 20 (by omega) (by omega)
  refine znq ?_
  refine z1 (fun n A τ => τ = σ ∧ ∃ (m : Nat) (s : Bs), A 0 = .raw (.int .i64 m) ∧ A 3 = ze s ∧ m ≤ N ∧ (s = [] ∧ m = N ∨ s ≠ [] ∧ zeb m ++ s = zz N) ∧ n = m + if s = [] then 1 else 0) (N + 1) ?_ ?_
  · exact ⟨rfl, N, [], by simp, by simp [ze, zf], by omega, .inl ⟨rfl, rfl⟩, by simp⟩
  rintro n A τ ⟨rfl, m, s, a0, a3, hm, hs, rfl⟩ I1 hI1
  have hE : (zf s).toList.isEmpty = decide (s = []) := zf8 s
  have eF : (ByteArray.mk #[48, 49, 50, 51, 52, 53, 54, 55, 56, 57]).size = 10 := rfl
  have e1 : (m : Int).tmod 10 = ((m % 10 : Nat) : Int) := by rw [show (10 : Int) = ((10 : Nat) : Int) from rfl, Int.ofNat_tmod]
  have e2 : (m : Int).tdiv 10 = ((m / 10 : Nat) : Int) := by rw [Int.tdiv_eq_ediv_of_nonneg (by omega)]; omega
  have e3 : IntKind.i64.wrap ((m / 10 : Nat) : Int) = ((m / 10 : Nat) : Int) := zA (by omega) (by omega)
  have e4 : IntKind.i64.wrap (((m % 10 : Nat) : Int) + 1) = ((m % 10 + 1 : Nat) : Int) := by rw [zA (by omega) (by omega)]; omega
  have hx := zlm (m % 10) (by omega)
  have hgo : (s = [] ∨ 0 < m) → (s.length ≤ 20 ∧ (UInt8.ofNat (48 + m % 10) :: s) ≠ [] ∧ zeb (m / 10) ++ (UInt8.ofNat (48 + m % 10) :: s) = zz N) := fun hc => by
    rcases hs with ⟨rfl, rfl⟩ | ⟨h1, h2⟩
    · refine ⟨by simp, by simp, ?_⟩
      rcases Nat.eq_zero_or_pos m with h0 | h0
      · subst h0; rw [zbF (by omega)]; rfl
      · rw [← zep h0]; unfold zeb; rw [if_neg (by omega)]
    · rcases hc with hc | hc
      · exact absurd hc h1
      · rw [zep hc, List.append_assoc] at h2
        refine ⟨?_, by simp, by simpa using h2⟩
        have := congrArg List.length h2
        simp at this; omega
  by_cases hc : s = [] ∨ 0 < m
  · obtain ⟨g1, g2, g3⟩ := hgo hc
    have hlt : m / 10 + (if (UInt8.ofNat (48 + m % 10) :: s) = [] then 1 else 0) < m + if s = [] then 1 else 0 := by
      rw [if_neg g2]
      rcases hc with hc | hc
      · rw [if_pos hc]; omega
      · split <;> omega
    have hcat : zf [UInt8.ofNat (48 + m % 10)] ++ zf s = zf (UInt8.ofNat (48 + m % 10) :: s) := zaN _ _
    have sz1 : ((zf [UInt8.ofNat (48 + m % 10)]).size : Int) + ((zf s).size : Int) ≤ 9223372036854775807 := by rw [zT, zT]; simp; omega
    have hmd : m / 10 ≤ N := by omega
    have hfin : ∀ A', A' 0 = .raw (.int .i64 ((m / 10 : Nat) : Int)) → A' 3 = ze (UInt8.ofNat (48 + m % 10) :: s) → I1 A' τ := fun A' x0 x3 =>
      hI1 _ A' τ hlt ⟨rfl, m / 10, _, x0, x3, hmd, .inr ⟨g2, g3⟩, rfl⟩
    have e5 : (0 : Int) < (m : Int) ↔ 0 < m := by omega
    unfold ze at *
    unfold znI at hx
    generalize zf (UInt8.ofNat (48 + m % 10) :: s) = z at *
    generalize m / 10 = d at *
    generalize zf [UInt8.ofNat (48 + m % 10)] = f at *
    have hm10 : (m % 10 + 1 ≤ 10) = True := by simp; omega
    have hm11 : (m % 10 ≤ m % 10 + 1) = True := by simp
    generalize m % 10 + 1 = r1 at *
    generalize m % 10 = r at *
    by_cases hs0 : s = []
    · have hE' : (zf s).toList.isEmpty = true := by rw [hE]; simp [hs0]
      have FF := fI @a0 (fI @a3 (fI @hE' (fI @eF (fI @e1 (fI @e2 (fI @e3 (fI @e4 (fI @hx (fI @hcat (fI @sz1 (fI @hm10 @hm11))))))))))); refine gxC ?_; clear FF
      refine hfin _ ?_ ?_ <;> simp
    · have hm0 : 0 < m := by rcases hc with h | h; exact absurd h hs0; exact h
      have hE' : (zf s).toList.isEmpty = false := by rw [hE]; simp [hs0]
      have FF := fI @a0 (fI @a3 (fI @hE' (fI @eF (fI @hm0 (fI @e1 (fI @e2 (fI @e3 (fI @e4 (fI @hx (fI @hcat (fI @sz1 (fI @hm10 @hm11)))))))))))); refine gxC ?_; clear FF
      refine hfin _ ?_ ?_ <;> simp
  · have h1 : ¬ s = [] := fun e => hc (.inl e)
    have h2 : m = 0 := by omega
    subst h2
    have h3 : s = zz N := by
      rcases hs with ⟨h, _⟩ | ⟨_, h⟩
      · exact absurd h h1
      · simpa [zeb] using h
    subst h3
    have hE' : (zf (zz N)).toList.isEmpty = false := by rw [hE]; simp [h1]
    unfold ze at *
    have FF := fI @a0 (fI @a3 @hE'); exact zJ
theorem zgP : PCalls Tryz.prog 26 [] (zB [zk 0, zk 1, zk 2, zk 3] false) := by
  refine zD Tryz.func26 rfl (N := 2) rfl rfl (by simp) (by simp [noIds]) fun σ => ?_
  refine zoZ ?_
  unfold zB
  refine zfd (n := 1) (es := [zk 0, zk 1, zk 2, zk 3].map ze) (v := .rs ⟨1, σ.nx 1, 1⟩ 0 4) (.inr rfl) (by simp) (OwnL.of rfl (by simp [zl, ze, zf, zk]) (zu _ _ _) rfl) (Ext.new _ _ _ _)
theorem zk7 (s : Bs) (hs : s.length ≤ 1000) : PCalls Tryz.prog 35 [ze s] (zB (zq 32 s) false) := by
  refine zD Tryz.func35 rfl (N := 37) rfl rfl (by simp) (by simp [noIds]) fun σ0 => ?_
  have stO : zN (ze []).cells = true := rfl
  have stE : AV.raw (.string (ByteArray.mk #[])) = ze [] := rfl
  have FF := fI @stO @stE; refine gxC ?_; clear FF
  refine z1 (fun n A τ => Ext σ0 τ ∧ A 0 = ze s ∧ ∃ (i : Nat) (v : AV), A 3 = v ∧ OwnL σ0 τ 1 v ((zq 32 (s.take i)).map ze) ∧ A 4 = .raw (.int .i64 i) ∧ i ≤ s.length ∧ n = s.length - i) s.length ?_ ?_
  · refine ⟨Ext.new _ _ _ _, by simp [ze], 0, _, rfl, .inr ⟨⟨5, σ0.nx 5, 1⟩, by simp [zq], rfl, by simp [zl, zq, ze, zf], zu _ _ _⟩, by simp, by omega, by omega⟩
  rintro n A τ ⟨hE, a0, i, v, a5, hO, a6, hi, rfl⟩ I1 hI1
  have hsz := zT s
  by_cases hlt : i < s.length
  · have hx : s[i]? = some s[i] := List.getElem?_eq_getElem hlt
    have ha := ziw hx (by omega)
    have hsub := zln hx
    have hst : zq 32 (s.take (i + 1)) = if s[i] = 32 then zq 32 (s.take i) ++ [[]] else zdv (zq 32 (s.take i)) s[i] := by rw [List.take_add_one, hx]; exact zet 32 _ _
    have hps := zkw 32 (s.take i)
    have hpl := zbu 32 (s.take i)
    rw [List.length_take] at hps hpl
    generalize s[i] = c at *
    have w1 : IntKind.i64.wrap ((i : Int) + 1) = ((i + 1 : Nat) : Int) := by rw [zA (by omega) (by omega)]; omega
    have hlt' : i < (zf s).size := by omega
    have hle1 : i + 1 ≤ (zf s).size := by omega
    have hbb : ((c.toNat : Int) = 32) ↔ c = 32 := by
      constructor
      · intro e; exact UInt8.toNat.inj (by show c.toNat = 32; omega)
      · rintro rfl; rfl
    by_cases hc : c = 32
    · rw [if_pos hc] at hst
      subst hc
      (try ((first | with_reducible refine zy ?_ | with_reducible refine zG ?_ | with_reducible refine zH ?_); simp [-cellOK, a0, a5, a6, ze, hlt', ha, stO, -zM])); repeat' (first | ((first | refine zt ?_ | refine zw ?_ | refine dN (by decide +kernel) ?_ | refine dC (by decide +kernel) ?_ | (refine zh ?_ ?_ <;> (intro hg; simp only [hg])) | fail) <;> simp [-cellOK, a0, a5, a6, ze, hlt', ha, stO, -zM]) | refine zv ?_ | refine zr ?_ | (refine zO ?_; simp only [zP]; try simp) | (refine zm (fun hc => ?_) (fun hc => ?_) <;> try simp at hc) | fail)
      refine zbM zjn (hO.ext (Ext.new _ _ _ _)) (hE.trans (Ext.new _ _ _ _)) (ys := [ze []]) (by simp [ze, zf]) (.inr rfl) (by simp [ze]) (by simp [zq]; omega) ?_
      intro v' τ' hO' hE' _ _
      have FF := fI @a0 (fI @a5 (fI @a6 @w1)); refine gxC ?_; clear FF
      exact hI1 (s.length - (i + 1)) _ _ (by omega) ⟨hE', by simp [a0], i + 1, v', by simp, by rw [hst]; simpa using hO', by simp, by omega, rfl⟩
    · rw [if_neg hc] at hst
      have hcc : ¬ (c.toNat : Int) = 32 := fun e => hc (hbb.1 e)
      obtain ⟨qs, p, hqp⟩ : ∃ qs p, zq 32 (s.take i) = qs ++ [p] := ⟨_, _, (List.dropLast_concat_getLast (zaY 32 _)).symm⟩
      rw [hqp, zdw] at hst
      rw [hqp] at hO hps hpl
      have hp := hpl p (by simp)
      rcases hO with ⟨h0, _⟩ | ⟨j, rfl, hjs, hm, hn⟩
      · simp at h0
      · obtain ⟨k, hqk⟩ : ∃ k, qs.length = k := ⟨_, rfl⟩
        obtain ⟨L, hL⟩ : ∃ L, (qs ++ [p]).map ze = L := ⟨_, rfl⟩
        have hLl : L.length = k + 1 := by rw [← hL, ← hqk]; simp
        have hLk : L[k]'(by omega) = ze p := by simp [← hL, ← hqk]
        have hLs : L.set k (ze (p ++ [c])) = (qs ++ [p ++ [c]]).map ze := by rw [← hL, ← hqk]; simp
        rw [hL] at hm a5
        rw [hLl] at a5
        have w2 : IntKind.i64.wrap (k : Int) = (k : Int) := zA (by omega) (by simp at hps; omega)
        have c3 : (0 : Int) ≤ (i : Int) + 1 := by omega
        have c2 : (k : Int) < (k : Int) + 1 := by omega
        have sz2 : ((zf p).size : Int) + ((zf [c]).size : Int) ≤ 9223372036854775807 := by rw [zT, zT]; simp; omega
        have hcat : zf p ++ zf [c] = zf (p ++ [c]) := zaN _ _
        have hsp : setPart (.raw (.string (zf p))) 0 [.raw (.string (zf (p ++ [c])))] = ze (p ++ [c]) := rfl
        have hcl : (AV.raw (.string (zf p))).cells = [.raw (.string (zf p))] := rfl
        have hck : zN [AV.raw (.string (zf (p ++ [c])))] = true := rfl
        unfold ze at hLk
        have FF := fI @a0 (fI @a5 (fI @a6 (fI ze.eq_1 (fI @hlt' (fI @hle1 (fI @ha (fI @hcc (fI @c2 (fI @c3 (fI @w1 (fI @w2 (fI @hm (fI @hLk (fI @hLl (fI @hjs (fI @hsub (fI @sz2 (fI @hcat (fI @hsp (fI @hcl @hck)))))))))))))))))))); refine gxC ?_; clear FF
        refine hI1 (s.length - (i + 1)) _ _ (by omega) ⟨⟨fun i' o h' => ?_, hE.nx⟩, by simp [a0, ze], i + 1, .rs j 0 (k + 1), by simp [a5], ?_, by simp, by omega, rfl⟩
        · rw [zQ (fun e => by rw [e, hn] at h'; cases h')]; exact hE.m i' o h'
        · rw [hst, ← hLs]
          exact OwnL.of hjs (by simp [hm, ze]) hn (by simp [hLl])
  · have : i = s.length := by omega
    subst this
    rw [List.take_length] at hO
    have FF := fI @a0 (fI @a5 (fI @a6 (fI ze.eq_1 @hsz))); refine gxC ?_; clear FF
    exact zfd (.inr rfl) (by simp) hO hE
theorem zb0 (r : Ru) (h : RuOK r) : PCalls Tryz.prog 7 [zc r] (ze (zV r)) := by
  have n := ruN h.b
  obtain ⟨hb, hlo, hhi⟩ := h
  obtain ⟨id, dev, prio, kind, ⟨lo, hi⟩, port⟩ := r
  obtain ⟨id0, id1, dev0, dev1, prio0, prio1, kind0, kind1, port0, port1, kp, le⟩ := n
  simp only [] at *
  obtain ⟨id, rfl⟩ : ∃ k : Nat, id = k := ⟨id.toNat, by omega⟩
  obtain ⟨dev, rfl⟩ : ∃ k : Nat, dev = k := ⟨dev.toNat, by omega⟩
  obtain ⟨prio, rfl⟩ : ∃ k : Nat, prio = k := ⟨prio.toNat, by omega⟩
  obtain ⟨port, rfl⟩ : ∃ k : Nat, port = k := ⟨port.toNat, by omega⟩
  obtain ⟨lo, rfl⟩ : ∃ k : Nat, lo = k := ⟨lo.toNat, by omega⟩
  obtain ⟨hi, rfl⟩ : ∃ k : Nat, hi = k := ⟨hi.toNat, by omega⟩
  have i1 := zbZ id (by omega)
  have i2 := zbZ dev (by omega)
  have i3 := zbZ prio (by omega)
  have i4 := zbZ port (by omega)
  have l1 := zaM id 7 (by omega) (by omega)
  have l2 := zaM dev 1 (by omega) (by omega)
  have l3 := zaM prio 4 (by omega) (by omega)
  have l4 := zaM port 1 (by omega) (by omega)
  have l5 : (zY lo hi).length ≤ 31 := by
    have := zbt (a := lo) (by omega)
    have := zbt (a := hi) (by omega)
    simp [zY]; omega
  have lw : ∀ k, (zk k).length ≤ 7 := fun k => by unfold zk; split <;> decide
  have hR := zf9 lo hi (by omega) (by omega)
  have hN := zgP
  have hsp : ByteArray.mk #[32] = zf [32] := rfl
  have eX : zf (zz id) ++ ByteArray.mk #[32] ++ zf (zz dev) ++ ByteArray.mk #[32] ++ zf (zz prio) ++ ByteArray.mk #[32] ++ zf (zk kind.toNat) ++ ByteArray.mk #[32] ++ zf (zY lo hi) = zf (Lib.join [zz id, zz dev, zz prio, zk kind.toNat, zY lo hi] [32]) := by
    rw [hsp]; simp only [zaN]
    simp [Lib.join_cons, Lib.joinTail]
  have eY : zf (Lib.join [zz id, zz dev, zz prio, zk kind.toNat, zY lo hi] [32]) ++ ByteArray.mk #[32] ++ zf (zz port) = zf (Lib.join ([zz id, zz dev, zz prio, zk kind.toNat, zY lo hi] ++ [zz port]) [32]) := by
    rw [hsp]; simp only [zaN]
    simp [Lib.join_cons, Lib.joinTail]
  have lX : (zf (Lib.join [zz id, zz dev, zz prio, zk kind.toNat, zY lo hi] [32])).size ≤ 54 := by
    rw [zT]
    have := lw kind.toNat
    simp [Lib.join_cons, Lib.joinTail]; omega
  have hT0 : kind = 0 → zV ⟨id, dev, prio, kind, ⟨lo, hi⟩, port⟩ = Lib.join ([zz id, zz dev, zz prio, zk kind.toNat, zY lo hi] ++ [zz port]) [32] := fun e => by
    unfold zV zah
    rw [if_pos e]; rfl
  have hT1 : ¬ kind = 0 → zV ⟨id, dev, prio, kind, ⟨lo, hi⟩, port⟩ = Lib.join [zz id, zz dev, zz prio, zk kind.toNat, zY lo hi] [32] := fun e => by
    unfold zV zah
    rw [if_neg e]
    rfl
  generalize Lib.join ([zz id, zz dev, zz prio, zk kind.toNat, zY lo hi] ++ [zz port]) [32] = Y at *
  generalize Lib.join [zz id, zz dev, zz prio, zk kind.toNat, zY lo hi] [32] = X at *
  rw [← zT] at l1 l2 l3 l4 l5
  have lw' : ∀ k, (zf (zk k)).size ≤ 7 := fun k => by rw [zT]; exact lw k
  unfold zB ze at *
  simp only [List.map_cons, List.map_nil] at hN
  have hkk : kind = 0 ∨ kind = 1 ∨ kind = 2 ∨ kind = 3 := by omega
  refine zD Tryz.func7 rfl (N := 39) rfl rfl (by simp) (by simp [noIds]) fun σ => ?_
  clear hb kp lw
  generalize zf (zz id) = X1 at *
  generalize zf (zz dev) = X2 at *
  generalize zf (zz prio) = X3 at *
  generalize zf (zz port) = X4 at *
  generalize zf (zY lo hi) = X5 at *
  generalize hZX : zf X = ZX at *
  have e1 : (ByteArray.mk #[32]).size = 1 := rfl
  have u0 := lw' 0
  have u1 := lw' 1
  have u2 := lw' 2
  have u3 := lw' 3
  clear lw'
  generalize hW0 : zf (zk 0) = W0 at *
  generalize hW1 : zf (zk 1) = W1 at *
  generalize hW2 : zf (zk 2) = W2 at *
  generalize hW3 : zf (zk 3) = W3 at *
  have s1 : (X1.size : Int) + 1 ≤ 9223372036854775807 := by omega
  have s2 : (X1.size : Int) + 1 + X2.size ≤ 9223372036854775807 := by omega
  have s3 : (X1.size : Int) + 1 + X2.size + 1 ≤ 9223372036854775807 := by omega
  have s4 : (X1.size : Int) + 1 + X2.size + 1 + X3.size ≤ 9223372036854775807 := by omega
  have s5 : (X1.size : Int) + 1 + X2.size + 1 + X3.size + 1 ≤ 9223372036854775807 := by omega
  have s6 : ∀ W : ByteArray, W.size ≤ 7 → (X1.size : Int) + 1 + X2.size + 1 + X3.size + 1 + W.size ≤ 9223372036854775807 := fun W hw => by omega
  have s7 : ∀ W : ByteArray, W.size ≤ 7 → (X1.size : Int) + 1 + X2.size + 1 + X3.size + 1 + W.size + 1 ≤ 9223372036854775807 := fun W hw => by omega
  have s8 : ∀ W : ByteArray, W.size ≤ 7 → (X1.size : Int) + 1 + X2.size + 1 + X3.size + 1 + W.size + 1 + X5.size ≤ 9223372036854775807 := fun W hw => by omega
  have t1 : (ZX.size : Int) + 1 ≤ 9223372036854775807 := by omega
  have t2 : (ZX.size : Int) + 1 + X4.size ≤ 9223372036854775807 := by omega
  rcases hkk with rfl | rfl | rfl | rfl
  · rw [hT0 rfl]
    have eX : X1 ++ ByteArray.mk #[32] ++ X2 ++ ByteArray.mk #[32] ++ X3 ++ ByteArray.mk #[32] ++ W0 ++ ByteArray.mk #[32] ++ X5 = ZX := by rw [← hW0]; exact eX
    have q6 := s6 W0 u0
    have q7 := s7 W0 u0
    have q8 := s8 W0 u0
    clear hT0 hT1 s6 s7 s8
    generalize zf Y = ZY at *
    have FF := fI zc.eq_1 (fI @e1 (fI @s1 (fI @s2 (fI @s3 (fI @s4 (fI @s5 (fI @q6 (fI @q7 (fI @q8 (fI @t1 (fI @t2 (fI @eX (fI @eY (fI @zl (fI @zo @zb))))))))))))))); exact zJ
  · rw [hT1 (by omega)]
    have eX : X1 ++ ByteArray.mk #[32] ++ X2 ++ ByteArray.mk #[32] ++ X3 ++ ByteArray.mk #[32] ++ W1 ++ ByteArray.mk #[32] ++ X5 = ZX := by rw [← hW1]; exact eX
    have q6 := s6 W1 u1
    have q7 := s7 W1 u1
    have q8 := s8 W1 u1
    have hZ : zf X = ZX := hZX
    rw [hZ]
    clear hT0 hT1 s6 s7 s8
    have FF := fI zc.eq_1 (fI @e1 (fI @s1 (fI @s2 (fI @s3 (fI @s4 (fI @s5 (fI @q6 (fI @q7 (fI @q8 (fI @eX (fI @zl (fI @zo @zb)))))))))))); exact zJ
  · rw [hT1 (by omega)]
    have eX : X1 ++ ByteArray.mk #[32] ++ X2 ++ ByteArray.mk #[32] ++ X3 ++ ByteArray.mk #[32] ++ W2 ++ ByteArray.mk #[32] ++ X5 = ZX := by rw [← hW2]; exact eX
    have q6 := s6 W2 u2
    have q7 := s7 W2 u2
    have q8 := s8 W2 u2
    have hZ : zf X = ZX := hZX
    rw [hZ]
    clear hT0 hT1 s6 s7 s8
    have FF := fI zc.eq_1 (fI @e1 (fI @s1 (fI @s2 (fI @s3 (fI @s4 (fI @s5 (fI @q6 (fI @q7 (fI @q8 (fI @eX (fI @zl (fI @zo @zb)))))))))))); exact zJ
  · rw [hT1 (by omega)]
    have eX : X1 ++ ByteArray.mk #[32] ++ X2 ++ ByteArray.mk #[32] ++ X3 ++ ByteArray.mk #[32] ++ W3 ++ ByteArray.mk #[32] ++ X5 = ZX := by rw [← hW3]; exact eX
    have q6 := s6 W3 u3
    have q7 := s7 W3 u3
    have q8 := s8 W3 u3
    have hZ : zf X = ZX := hZX
    rw [hZ]
    clear hT0 hT1 s6 s7 s8
    have FF := fI zc.eq_1 (fI @e1 (fI @s1 (fI @s2 (fI @s3 (fI @s4 (fI @s5 (fI @q6 (fI @q7 (fI @q8 (fI @eX (fI @zl (fI @zo @zb)))))))))))); exact zJ
end Go.Proofs.YtckabcbfbpejkaaGreatDoor.Av
namespace Go.Proofs.YtckabcbfbpejkaaGreatDoor.Av
open Go
set_option linter.unusedSimpArgs false
set_option linter.unusedVariables false
set_option maxRecDepth 100000
set_option maxHeartbeats 4000000
set_option pp.maxSteps 600
def zbv (x : Bs) : Nat → Int
  | 0 => 0
  | n + 1 => if zk n = x then n else zbv x n
theorem zlo (x : Bs) : zbv x 4 = zgp x := by
  unfold zgp zbv zbv zbv zbv zbv
  by_cases h1 : x = zk 1
  · subst h1; decide
  by_cases h2 : x = zk 2
  · subst h2; decide
  by_cases h3 : x = zk 3
  · subst h3; decide
  have e1 : ¬ zk 1 = x := fun e => h1 e.symm
  have e2 : ¬ zk 2 = x := fun e => h2 e.symm
  have e3 : ¬ zk 3 = x := fun e => h3 e.symm
  simp [h1, h2, h3, e1, e2, e3]
theorem zi5 (m : Nat) (x : Bs) (hm : m ≤ 1048576) : -1 ≤ zab m x ∧ zab m x ≤ 1048576 := by
  unfold zab
  split
  · rename_i n hn
    have := zfj hn
    omega
  · omega
theorem zga (s : Bs) (hs : s.length ≤ 1000) : PCalls Tryz.prog 10 [ze s] (zen (zco zgq s)) := by
  have hS := zk7 s hs
  have hlen := zbu 32 s
  have hN := zgP
  have hc1 : ∀ l : Bs, (ze l).cells = [ze l] := fun _ => rfl
  have hc2 : ∀ l : Bs, cellOK (ze l) = true := fun _ => rfl
  refine zD Tryz.func10 rfl (N := 81) rfl rfl (by simp) (zi3 _) fun σ => ?_
  unfold zco zgq
  generalize zq 32 s = ps at *
  by_cases hc : ps.length = 5 ∨ ps.length = 6
  · rw [if_pos hc]
    rcases zmY hc with ⟨p0, p1, p2, p3, p4, rfl⟩ | ⟨p0, p1, p2, p3, p4, p5, rfl⟩
    · have n0 := zap p0 1048576 (by have := hlen p0 (by simp); omega) (by omega)
      have n1 := zap p1 9 (by have := hlen p1 (by simp); omega) (by omega)
      have n2 := zap p2 1024 (by have := hlen p2 (by simp); omega) (by omega)
      have hR := zcU p4 (by have := hlen p4 (by simp); omega)
      simp only [List.getD_cons_zero, List.getD_cons_succ, List.length_cons, List.length_nil]
      have hid := zi5 1048576 p0 (by omega)
      generalize zab 1048576 p0 = id at *
      generalize zab 9 p1 = dev at *
      generalize zab 1024 p2 = prio at *
      unfold zB at hN
      obtain ⟨ks, hks⟩ : ∃ ks, [zk 0, zk 1, zk 2, zk 3].map ze = ks := ⟨_, rfl⟩
      have hkl : ks.length = 4 := by rw [← hks]; rfl
      have hke : ∀ i (h : i < 4), ks[i]'(by omega) = ze (zk i) := fun i h => by
        subst hks
        match i, h with
        | 0, _ => rfl
        | 1, _ => rfl
        | 2, _ => rfl
        | 3, _ => rfl
      rw [hks] at hN
      clear hks
      have FF := fI zB.eq_1 (fI @hc1 (fI @hc2 (fI @zl (fI @zo @zb)))); refine gxC ?_; clear FF
      refine z1 (fun n A τ => Ext σ τ ∧ A 0 = ze s ∧ A 2 = .rp ⟨2, σ.nx 2, 7⟩ 0 0 ∧ A 4 = .sl 1 [ze p0, ze p1, ze p2, ze p3, ze p4] false ∧ A 5 = .rp ⟨5, σ.nx 5, 7⟩ 0 0 ∧ τ.m ⟨2, σ.nx 2, 7⟩ = some (.buf [zc ⟨0, 0, 0, 0, ⟨0, 0⟩, 0⟩]) ∧ ∃ i : Nat, τ.m ⟨5, σ.nx 5, 7⟩ = some (.buf [zc ⟨id, dev, prio, zbv p3 i, ⟨0, 0⟩, 0⟩]) ∧ A 6 = .raw (.int .i64 i) ∧ i ≤ 4 ∧ n = 4 - i) 4 ?_ ?_
      · exact ⟨(by exact exA), by simp, by simp, by simp, by simp, by simp [zo, zl, zb, zc], 0, by simp [zo, zl, zb, zc, zbv], by simp, by omega, by omega⟩
      rintro n A τ ⟨hE, a0, a2, a4, a5, m2, i, m5, a6, hi, rfl⟩ I1 hI1
      have f5 : σ.m ⟨5, σ.nx 5, 7⟩ = none := zu _ _ _
      by_cases hlt : i < 4
      · have hlt' : (i : Int) < 4 := by omega
        have hk := hke i hlt
        have hQ := zbW (zk i) p3
        have w1 : IntKind.i64.wrap ((i : Int) + 1) = ((i + 1 : Nat) : Int) := by rw [zA (by omega) (by omega)]; omega
        have hF : zbv p3 (i + 1) = if zk i = p3 then (i : Int) else zbv p3 i := rfl
        generalize zbv p3 i = kf at *
        by_cases he : zk i = p3
        · have hQ' : ((zf (zk i)).toList == (zf p3).toList) = true := by rw [hQ]; simpa using he
          rw [if_pos he] at hF
          clear hQ he
          unfold ze at *
          have FF := fI @a0 (fI @a2 (fI @a4 (fI @a5 (fI @a6 (fI @m2 (fI @m5 (fI @hlt (fI @hlt' (fI @hkl (fI @hk (fI @hQ' (fI @hc1 (fI @hc2 (fI @w1 (fI zc.eq_1 (fI @zl (fI @zo @zb))))))))))))))))); refine gxC ?_; clear FF
          exact hI1 (4 - (i + 1)) _ _ (by omega) ⟨(by exact exA), by simp [a0], by simp [a2], by simp [a4], by simp [a5], by simp [zo, m2, m5, zc], i + 1, by simp [zo, m2, m5, zc, hF], by simp, by omega, rfl⟩
        · have hQ' : ((zf (zk i)).toList == (zf p3).toList) = false := by rw [hQ]; simpa using he
          rw [if_neg he] at hF
          clear hQ he
          unfold ze at *
          have FF := fI @a0 (fI @a2 (fI @a4 (fI @a5 (fI @a6 (fI @m2 (fI @m5 (fI @hlt (fI @hlt' (fI @hkl (fI @hk (fI @hQ' (fI @hc1 (fI @hc2 (fI @w1 (fI zc.eq_1 (fI @zl (fI @zo @zb))))))))))))))))); refine gxC ?_; clear FF
          exact hI1 (4 - (i + 1)) _ _ (by omega) ⟨hE, by simp [a0], by simp [a2], by simp [a4], by simp [a5], m2, i + 1, by rw [hF]; exact m5, by simp, by omega, rfl⟩
      · have hi4 : i = 4 := by omega
        subst hi4
        rw [zlo] at m5
        generalize zgp p3 = kind at *
        have n25 : ¬ (5 : Nat) = 2 := by omega
        unfold zc at m2 m5
        have e5 : Ext σ τ := hE
        cases hq : zbi p4 with
        | none =>
          rw [hq, zaE] at hR
          simp only []
          rw [zaw]
          have hB := zaJ ⟨id, dev, prio, kind, ⟨0, 0⟩, 0⟩ (by simp; omega) (by simp; omega)
          generalize zay ⟨id, dev, prio, kind, ⟨0, 0⟩, 0⟩ = rb at *
          unfold zc at hB
          have FF := fI @a0 (fI @a2 (fI @a4 (fI @a5 (fI @a6 (fI @m2 (fI @m5 (fI @hc1 (fI @hc2 (fI @zl (fI @zo @zb)))))))))); exact zJ
        | some ab =>
          obtain ⟨lo, hi'⟩ := ab
          have hlt2 := zcB hq
          rw [hq, zaX] at hR
          simp only []
          have hB := zaJ ⟨id, dev, prio, kind, ⟨lo, hi'⟩, 0⟩ (by simp; omega) (by simp; omega)
          cases hb : zay ⟨id, dev, prio, kind, ⟨lo, hi'⟩, 0⟩ with
          | false =>
            rw [hb] at hB
            rw [if_neg (fun e => by simp [hb] at e), zaw]
            unfold zc at hB
            have FF := fI @a0 (fI @a2 (fI @a4 (fI @a5 (fI @a6 (fI @m2 (fI @m5 (fI @hc1 (fI @hc2 (fI @zl (fI @zo @zb)))))))))); exact zJ
          | true =>
            rw [hb] at hB
            have hT := zb0 ⟨id, dev, prio, kind, ⟨lo, hi'⟩, 0⟩ ⟨hb, by simp, by simp; omega⟩
            have hQ := zbW (zV ⟨id, dev, prio, kind, ⟨lo, hi'⟩, 0⟩) s
            by_cases he : zV ⟨id, dev, prio, kind, ⟨lo, hi'⟩, 0⟩ = s
            · have hQ' : ((zf (zV ⟨id, dev, prio, kind, ⟨lo, hi'⟩, 0⟩)).toList == (zf s).toList) = true := by rw [hQ]; simpa using he
              rw [if_pos ⟨hb, he⟩, zcS]
              clear hQ he hb
              generalize zV ⟨id, dev, prio, kind, ⟨lo, hi'⟩, 0⟩ = T at *
              have hT' : PCalls Tryz.prog 7 [zc ⟨id, dev, prio, kind, ⟨lo, hi'⟩, 0⟩] (.raw (.string (zf T))) := hT
              have a0' : A 0 = .raw (.string (zf s)) := a0
              unfold zc at hB hT'
              have FF := fI @a0' (fI @a2 (fI @a4 (fI @a5 (fI @a6 (fI @m2 (fI @m5 (fI @hc1 (fI @hc2 (fI @hQ' (fI @zl (fI @zo @zb))))))))))); exact zJ
            · have hQ' : ((zf (zV ⟨id, dev, prio, kind, ⟨lo, hi'⟩, 0⟩)).toList == (zf s).toList) = false := by rw [hQ]; simpa using he
              rw [if_neg (fun e => he e.2), zaw]
              clear hQ he hb
              generalize zV ⟨id, dev, prio, kind, ⟨lo, hi'⟩, 0⟩ = T at *
              have hT' : PCalls Tryz.prog 7 [zc ⟨id, dev, prio, kind, ⟨lo, hi'⟩, 0⟩] (.raw (.string (zf T))) := hT
              have a0' : A 0 = .raw (.string (zf s)) := a0
              unfold zc at hB hT'
              have FF := fI @a0' (fI @a2 (fI @a4 (fI @a5 (fI @a6 (fI @m2 (fI @m5 (fI @hc1 (fI @hc2 (fI @hQ' (fI @zl (fI @zo @zb))))))))))); exact zJ
    · have n0 := zap p0 1048576 (by have := hlen p0 (by simp); omega) (by omega)
      have n1 := zap p1 9 (by have := hlen p1 (by simp); omega) (by omega)
      have n2 := zap p2 1024 (by have := hlen p2 (by simp); omega) (by omega)
      have n5 := zap p5 9 (by have := hlen p5 (by simp); omega) (by omega)
      have hR := zcU p4 (by have := hlen p4 (by simp); omega)
      simp only [List.getD_cons_zero, List.getD_cons_succ, List.length_cons, List.length_nil]
      have hid := zi5 1048576 p0 (by omega)
      generalize zab 1048576 p0 = id at *
      generalize zab 9 p1 = dev at *
      generalize zab 1024 p2 = prio at *
      generalize zab 9 p5 = port at *
      unfold zB at hN
      obtain ⟨ks, hks⟩ : ∃ ks, [zk 0, zk 1, zk 2, zk 3].map ze = ks := ⟨_, rfl⟩
      have hkl : ks.length = 4 := by rw [← hks]; rfl
      have hke : ∀ i (h : i < 4), ks[i]'(by omega) = ze (zk i) := fun i h => by
        subst hks
        match i, h with
        | 0, _ => rfl
        | 1, _ => rfl
        | 2, _ => rfl
        | 3, _ => rfl
      rw [hks] at hN
      clear hks
      have FF := fI zB.eq_1 (fI @hc1 (fI @hc2 (fI @zl (fI @zo @zb)))); refine gxC ?_; clear FF
      refine z1 (fun n A τ => Ext σ τ ∧ A 0 = ze s ∧ A 2 = .rp ⟨2, σ.nx 2, 7⟩ 0 0 ∧ A 4 = .sl 1 [ze p0, ze p1, ze p2, ze p3, ze p4, ze p5] false ∧ A 5 = .rp ⟨5, σ.nx 5, 7⟩ 0 0 ∧ τ.m ⟨2, σ.nx 2, 7⟩ = some (.buf [zc ⟨0, 0, 0, 0, ⟨0, 0⟩, 0⟩]) ∧ ∃ i : Nat, τ.m ⟨5, σ.nx 5, 7⟩ = some (.buf [zc ⟨id, dev, prio, zbv p3 i, ⟨0, 0⟩, 0⟩]) ∧ A 6 = .raw (.int .i64 i) ∧ i ≤ 4 ∧ n = 4 - i) 4 ?_ ?_
      · exact ⟨(by exact exA), by simp, by simp, by simp, by simp, by simp [zo, zl, zb, zc], 0, by simp [zo, zl, zb, zc, zbv], by simp, by omega, by omega⟩
      rintro n A τ ⟨hE, a0, a2, a4, a5, m2, i, m5, a6, hi, rfl⟩ I1 hI1
      have f5 : σ.m ⟨5, σ.nx 5, 7⟩ = none := zu _ _ _
      by_cases hlt : i < 4
      · have hlt' : (i : Int) < 4 := by omega
        have hk := hke i hlt
        have hQ := zbW (zk i) p3
        have w1 : IntKind.i64.wrap ((i : Int) + 1) = ((i + 1 : Nat) : Int) := by rw [zA (by omega) (by omega)]; omega
        have hF : zbv p3 (i + 1) = if zk i = p3 then (i : Int) else zbv p3 i := rfl
        generalize zbv p3 i = kf at *
        by_cases he : zk i = p3
        · have hQ' : ((zf (zk i)).toList == (zf p3).toList) = true := by rw [hQ]; simpa using he
          rw [if_pos he] at hF
          clear hQ he
          unfold ze at *
          have FF := fI @a0 (fI @a2 (fI @a4 (fI @a5 (fI @a6 (fI @m2 (fI @m5 (fI @hlt (fI @hlt' (fI @hkl (fI @hk (fI @hQ' (fI @hc1 (fI @hc2 (fI @w1 (fI zc.eq_1 (fI @zl (fI @zo @zb))))))))))))))))); refine gxC ?_; clear FF
          exact hI1 (4 - (i + 1)) _ _ (by omega) ⟨(by exact exA), by simp [a0], by simp [a2], by simp [a4], by simp [a5], by simp [zo, m2, m5, zc], i + 1, by simp [zo, m2, m5, zc, hF], by simp, by omega, rfl⟩
        · have hQ' : ((zf (zk i)).toList == (zf p3).toList) = false := by rw [hQ]; simpa using he
          rw [if_neg he] at hF
          clear hQ he
          unfold ze at *
          have FF := fI @a0 (fI @a2 (fI @a4 (fI @a5 (fI @a6 (fI @m2 (fI @m5 (fI @hlt (fI @hlt' (fI @hkl (fI @hk (fI @hQ' (fI @hc1 (fI @hc2 (fI @w1 (fI zc.eq_1 (fI @zl (fI @zo @zb))))))))))))))))); refine gxC ?_; clear FF
          exact hI1 (4 - (i + 1)) _ _ (by omega) ⟨hE, by simp [a0], by simp [a2], by simp [a4], by simp [a5], m2, i + 1, by rw [hF]; exact m5, by simp, by omega, rfl⟩
      · have hi4 : i = 4 := by omega
        subst hi4
        rw [zlo] at m5
        generalize zgp p3 = kind at *
        have n25 : ¬ (5 : Nat) = 2 := by omega
        unfold zc at m2 m5
        have e5 : Ext σ τ := hE
        cases hq : zbi p4 with
        | none =>
          rw [hq, zaE] at hR
          simp only []
          rw [zaw]
          have hB := zaJ ⟨id, dev, prio, kind, ⟨0, 0⟩, port⟩ (by simp; omega) (by simp; omega)
          generalize zay ⟨id, dev, prio, kind, ⟨0, 0⟩, port⟩ = rb at *
          unfold zc at hB
          have FF := fI @a0 (fI @a2 (fI @a4 (fI @a5 (fI @a6 (fI @m2 (fI @m5 (fI @hc1 (fI @hc2 (fI @zl (fI @zo @zb)))))))))); exact zJ
        | some ab =>
          obtain ⟨lo, hi'⟩ := ab
          have hlt2 := zcB hq
          rw [hq, zaX] at hR
          simp only []
          have hB := zaJ ⟨id, dev, prio, kind, ⟨lo, hi'⟩, port⟩ (by simp; omega) (by simp; omega)
          cases hb : zay ⟨id, dev, prio, kind, ⟨lo, hi'⟩, port⟩ with
          | false =>
            rw [hb] at hB
            rw [if_neg (fun e => by simp [hb] at e), zaw]
            unfold zc at hB
            have FF := fI @a0 (fI @a2 (fI @a4 (fI @a5 (fI @a6 (fI @m2 (fI @m5 (fI @hc1 (fI @hc2 (fI @zl (fI @zo @zb)))))))))); exact zJ
          | true =>
            rw [hb] at hB
            have hT := zb0 ⟨id, dev, prio, kind, ⟨lo, hi'⟩, port⟩ ⟨hb, by simp, by simp; omega⟩
            have hQ := zbW (zV ⟨id, dev, prio, kind, ⟨lo, hi'⟩, port⟩) s
            by_cases he : zV ⟨id, dev, prio, kind, ⟨lo, hi'⟩, port⟩ = s
            · have hQ' : ((zf (zV ⟨id, dev, prio, kind, ⟨lo, hi'⟩, port⟩)).toList == (zf s).toList) = true := by rw [hQ]; simpa using he
              rw [if_pos ⟨hb, he⟩, zcS]
              clear hQ he hb
              generalize zV ⟨id, dev, prio, kind, ⟨lo, hi'⟩, port⟩ = T at *
              have hT' : PCalls Tryz.prog 7 [zc ⟨id, dev, prio, kind, ⟨lo, hi'⟩, port⟩] (.raw (.string (zf T))) := hT
              have a0' : A 0 = .raw (.string (zf s)) := a0
              unfold zc at hB hT'
              have FF := fI @a0' (fI @a2 (fI @a4 (fI @a5 (fI @a6 (fI @m2 (fI @m5 (fI @hc1 (fI @hc2 (fI @hQ' (fI @zl (fI @zo @zb))))))))))); exact zJ
            · have hQ' : ((zf (zV ⟨id, dev, prio, kind, ⟨lo, hi'⟩, port⟩)).toList == (zf s).toList) = false := by rw [hQ]; simpa using he
              rw [if_neg (fun e => he e.2), zaw]
              clear hQ he hb
              generalize zV ⟨id, dev, prio, kind, ⟨lo, hi'⟩, port⟩ = T at *
              have hT' : PCalls Tryz.prog 7 [zc ⟨id, dev, prio, kind, ⟨lo, hi'⟩, port⟩] (.raw (.string (zf T))) := hT
              have a0' : A 0 = .raw (.string (zf s)) := a0
              unfold zc at hB hT'
              have FF := fI @a0' (fI @a2 (fI @a4 (fI @a5 (fI @a6 (fI @m2 (fI @m5 (fI @hc1 (fI @hc2 (fI @hQ' (fI @zl (fI @zo @zb))))))))))); exact zJ
  · rw [if_neg hc]
    have h5 : (ps.length : Int) < 5 ∨ ¬ (ps.length : Int) < 5 ∧ 6 < (ps.length : Int) := by omega
    rw [zaw]
    rcases h5 with h5 | ⟨h5, h6⟩
    · have h5 := eq_true h5
      have FF := fI zB.eq_1 (fI @h5 (fI @zl (fI @zo @zb))); exact zJ
    · have h5 := eq_false h5
      have h6 := eq_true h6
      have FF := fI zB.eq_1 (fI @h5 (fI @h6 (fI @zl (fI @zo @zb)))); exact zJ
end Go.Proofs.YtckabcbfbpejkaaGreatDoor.Av
namespace Go.Proofs.YtckabcbfbpejkaaGreatDoor.Av
open Go
set_option linter.unusedSimpArgs false
set_option linter.unusedVariables false
set_option maxRecDepth 100000
set_option maxHeartbeats 4000000
set_option pp.maxSteps 600
theorem zk8 (o : Option Ru) : ∃ (q : Ru) (e : Int), zen o = .tup [zc q, .raw (.int .i64 e)] := by
  cases o with
  | none => exact ⟨⟨0, 0, 0, 0, ⟨0, 0⟩, 0⟩, 71, rfl⟩
  | some r => exact ⟨r, 0, rfl⟩
theorem zh9 (r : Ru) (s : Bs) (hr : 0 ≤ r.r.lo ∧ r.r.hi < 4294967296) (hid : -9223372036854775808 ≤ r.id ∧ r.id < 9223372036854775808) : PCalls Tryz.prog 3 [zc r, ze s] (.raw (.bool true)) := by
  have hL := zfz
  have r1 := zaJ r hid.1 hid.2
  have hsz := zT s
  refine zD Tryz.func3 rfl (N := 45) rfl rfl (by simp) (by simp [noIds]) fun σ => ?_
  by_cases hl : 80 < s.length
  · have hl' : ((80 : Int) < ((zf s).size : Int)) = True := by simp; omega
    cases hb : zay r with
    | false =>
      rw [hb] at r1
      unfold ze
      have FF := fI @hl' (fI @zg (fI @zp (fI @zl (fI @zo @zb)))); exact zJ
    | true =>
      rw [hb] at r1
      have t1 := zbE r ⟨hb, hr.1, hr.2⟩
      have t2 := zb0 r ⟨hb, hr.1, hr.2⟩
      unfold ze at *
      generalize zf (zV r) = X at *
      have FF := fI @hl' (fI @zg (fI @zp (fI @zl (fI @zo @zb)))); exact zJ
  · have hl' : ((80 : Int) < ((zf s).size : Int)) = False := by simp; omega
    have p1 := zeo s (by omega)
    have p2 := zga s (by omega)
    rw [← znG zl6 zl7 s] at p2
    obtain ⟨q, e, hq⟩ := zk8 (zco zem s)
    rw [hq] at p1 p2
    clear hq
    cases hb : zay r with
    | false =>
      rw [hb] at r1
      unfold ze at *
      (try ((first | with_reducible refine zy ?_ | with_reducible refine zG ?_ | with_reducible refine zH ?_); simp [-cellOK, hl', zg, zp, zbV, zcT, zas, -zaB, zl, zo, zb])); repeat' (first | ((first | refine zt ?_ | refine zw ?_ | refine dN (by decide +kernel) ?_ | refine dC (by decide +kernel) ?_ | refine uP (r1) ?_ | refine .inl ⟨_, .inl (r1), ?_⟩ | refine uP (hL) ?_ | refine .inl ⟨_, .inl (hL), ?_⟩ | refine uP (p1) ?_ | refine .inl ⟨_, .inl (p1), ?_⟩ | refine uP (p2) ?_ | refine .inl ⟨_, .inl (p2), ?_⟩ | (refine zh ?_ ?_ <;> (intro hg; simp only [hg])) | fail) <;> simp [-cellOK, hl', zg, zp, zbV, zcT, zas, -zaB, zl, zo, zb]) | refine zv ?_ | refine zr ?_ | (refine zO ?_; simp only [zP]; try simp) | (refine zI (by simp) ?_; simp) | (refine zc1 (by simp) (by simp [noIds]) (by repeat (first | assumption | exact Ext.refl _ | refine zbL ?_ | refine Ext.setF ?_ (by first | assumption | (simp [zb, St.set, zu]; done) | exact zar (by assumption)))) ?_; simp [-cellOK, hl', zg, zp, zbV, zcT, zas, -zaB, zl, zo, zb, nsE]) | (refine zm (fun hc => ?_) (fun hc => ?_) <;> try simp at hc) | fail)
    | true =>
      rw [hb] at r1
      have t1 := zbE r ⟨hb, hr.1, hr.2⟩
      have t2 := zb0 r ⟨hb, hr.1, hr.2⟩
      unfold ze at *
      generalize zf (zV r) = X at *
      (try ((first | with_reducible refine zy ?_ | with_reducible refine zG ?_ | with_reducible refine zH ?_); simp [-cellOK, hl', zg, zp, zbV, zcT, zas, -zaB, zl, zo, zb])); repeat' (first | ((first | refine zt ?_ | refine zw ?_ | refine dN (by decide +kernel) ?_ | refine dC (by decide +kernel) ?_ | refine uP (r1) ?_ | refine .inl ⟨_, .inl (r1), ?_⟩ | refine uP (hL) ?_ | refine .inl ⟨_, .inl (hL), ?_⟩ | refine uP (t1) ?_ | refine .inl ⟨_, .inl (t1), ?_⟩ | refine uP (t2) ?_ | refine .inl ⟨_, .inl (t2), ?_⟩ | refine uP (p1) ?_ | refine .inl ⟨_, .inl (p1), ?_⟩ | refine uP (p2) ?_ | refine .inl ⟨_, .inl (p2), ?_⟩ | (refine zh ?_ ?_ <;> (intro hg; simp only [hg])) | fail) <;> simp [-cellOK, hl', zg, zp, zbV, zcT, zas, -zaB, zl, zo, zb]) | refine zv ?_ | refine zr ?_ | (refine zO ?_; simp only [zP]; try simp) | (refine zI (by simp) ?_; simp) | (refine zc1 (by simp) (by simp [noIds]) (by repeat (first | assumption | exact Ext.refl _ | refine zbL ?_ | refine Ext.setF ?_ (by first | assumption | (simp [zb, St.set, zu]; done) | exact zar (by assumption)))) ?_; simp [-cellOK, hl', zg, zp, zbV, zcT, zas, -zaB, zl, zo, zb, nsE]) | (refine zm (fun hc => ?_) (fun hc => ?_) <;> try simp at hc) | fail)
theorem zgs (l : List Ru) (f : Bool) (i j a : Int) (hl : l.length < 2932031007403) (hid : ∀ r ∈ l, -9223372036854775808 ≤ r.id ∧ r.id < 9223372036854775808) : PCalls Tryz.prog 4 [za l f, .agg [.raw (.int .i64 i), .raw (.int .i64 j)], .raw (.int .u32 a)] (.raw (.bool true)) := by
  have hL := zfz
  have hA := zj6 l f hl hid
  refine zD Tryz.func4 rfl (N := 101) rfl rfl (by simp) (by simp [noIds]) fun σ => ?_
  by_cases hx : 60 < l.length
  · have hx' : ((60 : Int) < (l.length : Int)) = True := by simp; omega
    unfold za at *
    have FF := fI @hx' (fI @zl (fI @zo @zb)); exact zJ
  · have hx' : ((60 : Int) < (l.length : Int)) = False := by simp; omega
    cases hb : zbY l with
    | false =>
      rw [hb] at hA
      unfold za at *
      have FF := fI @hx' (fI @zl (fI @zo @zb)); exact zJ
    | true =>
      rw [hb] at hA
      obtain ⟨hB, hS⟩ := znw hb
      have m1 := zda l f j a hl
      have m2 := ziq l f j a hl
      rw [zlY hb, zoe hb] at m2
      have m2 : PCalls Tryz.prog 15 [za l f, .raw (.int .i64 j), .raw (.int .u32 a)] (.tup [zc (zb5 l j a), .raw (.bool (zdl l j a))]) := m2
      have d1 := zd6 l f j a hl
      have d2' := zhT l f j a hl
      have hd : zcM l j a = zcy l j a := by unfold zcM zcy; rw [zlX hb, zod hb]
      rw [hd] at d2'
      have f1 := ziz l f i (by omega) hS
      have f2 := zjh l f i (by omega)
      have s1 := ziv l l f false (by omega) (by omega)
      rw [show decide (l = l) = true by simp] at s1
      clear hd hB hS hb
      generalize zb5 l j a = m at *
      generalize zdl l j a = mb at *
      generalize zcy l j a = db at *
      generalize (zbs l i).getD ru0 = fr at *
      generalize (zbs l i).isSome = fb at *
      unfold za at *
      (try ((first | with_reducible refine zy ?_ | with_reducible refine zG ?_ | with_reducible refine zH ?_); simp [-cellOK, hx', -zM, zl, zo, zb])); repeat' (first | ((first | refine zt ?_ | refine zw ?_ | refine dN (by decide +kernel) ?_ | refine dC (by decide +kernel) ?_ | refine uP (hA) ?_ | refine .inl ⟨_, .inl (hA), ?_⟩ | (refine zh ?_ ?_ <;> (intro hg; simp only [hg])) | fail) <;> simp [-cellOK, hx', -zM, zl, zo, zb]) | refine zv ?_ | refine zr ?_ | (refine zO ?_; simp only [zP]; try simp) | (refine zm (fun hc => ?_) (fun hc => ?_) <;> try simp at hc) | fail)
      have hE1 : Ext σ (σ.new 4 2 (.buf [.agg [.raw (.int .i64 i), .raw (.int .i64 j)]])) := Ext.new _ _ _ _
      have hm4 : (σ.new 4 2 (.buf [.agg [.raw (.int .i64 i), .raw (.int .i64 j)]])).m ⟨4, σ.nx 4, 2⟩ = some (.buf [.agg [.raw (.int .i64 i), .raw (.int .i64 j)]]) := by simp [zl]
      have hnx : (σ.new 4 2 (.buf [.agg [.raw (.int .i64 i), .raw (.int .i64 j)]])).nx 28 = σ.nx 28 := by simp [zb]
      generalize σ.new 4 2 (.buf [.agg [.raw (.int .i64 i), .raw (.int .i64 j)]]) = τ at *
      have hne0 : ∀ b l', (AV.rs (⟨28, σ.nx 28, 7⟩ : Id) 0 0) ≠ .rs ⟨4, σ.nx 4, 2⟩ b l' := fun b l' e => by cases e
      refine zbM zlN (σ0 := σ) (es := []) (OwnL.of rfl (by simp [zl, hnx]) (zu _ _ _) rfl) (by exact exA) (ys := l.map zc) (by simp) (.inr rfl) (znT l) (by simp; omega) ?_
      intro v' τ' hO' hE' hkp _
      obtain ⟨k4, kv⟩ := hkp _ _ ((Ext.new τ 28 7 (.buf [])).m _ _ hm4) hne0
      simp only [List.nil_append] at hO'
      refine goD ?_
      generalize hA0 : put 101 _ _ _ = A0
      have d0 : A0 0 = .sl 7 (l.map zc) f := by rw [← hA0]; simp
      have d2 : A0 2 = .raw (.int .u32 a) := by rw [← hA0]; simp
      have d4 : A0 4 = .rp ⟨4, σ.nx 4, 2⟩ 0 0 := by rw [← hA0]; simp
      have d8 : A0 8 = v' := by rw [← hA0]; simp
      clear hA0
      subst d8
      refine zlK 8 hO' hE' fun A τ2 hE2 b8 kp kr _ km _ => ?_
      have hv4 : A0 8 ≠ .rs ⟨4, σ.nx 4, 2⟩ 0 (l.map zc).length := hO'.ne_sz (by simp) _ _
      have b0 : A 0 = .sl 7 (l.map zc) f := (kp 0 (by decide) (by rw [d0]; rfl)).trans d0
      have b2 : A 2 = .raw (.int .u32 a) := (kp 2 (by decide) (by rw [d2]; rfl)).trans d2
      have b4 : A 4 = .rp ⟨4, σ.nx 4, 2⟩ 0 0 := (kr 4 _ _ _ (by decide) d4 hv4).trans d4
      have n4 := km _ _ k4 hv4
      clear kp kr km kv hkp d0 d2 d4 hv4 hne0
      generalize l.map zc = L at *
      (try ((first | with_reducible refine zy ?_ | with_reducible refine zG ?_ | with_reducible refine zH ?_); simp [-cellOK, b0, b2, b4, b8, n4, zg, zp, zbV, zcT, zas, -zaB, zl, zo, zb])); repeat' (first | ((first | refine zt ?_ | refine zw ?_ | refine dN (by decide +kernel) ?_ | refine dC (by decide +kernel) ?_ | refine uP (hL) ?_ | refine .inl ⟨_, .inl (hL), ?_⟩ | refine uP (m1) ?_ | refine .inl ⟨_, .inl (m1), ?_⟩ | refine uP (m2) ?_ | refine .inl ⟨_, .inl (m2), ?_⟩ | refine uP (d1) ?_ | refine .inl ⟨_, .inl (d1), ?_⟩ | refine uP (d2') ?_ | refine .inl ⟨_, .inl (d2'), ?_⟩ | refine uP (f1) ?_ | refine .inl ⟨_, .inl (f1), ?_⟩ | refine uP (f2) ?_ | refine .inl ⟨_, .inl (f2), ?_⟩ | refine uP (s1) ?_ | refine .inl ⟨_, .inl (s1), ?_⟩ | (refine zh ?_ ?_ <;> (intro hg; simp only [hg])) | fail) <;> simp [-cellOK, b0, b2, b4, b8, n4, zg, zp, zbV, zcT, zas, -zaB, zl, zo, zb]) | refine zv ?_ | refine zr ?_ | (refine zO ?_; simp only [zP]; try simp) | (refine zI (by simp) ?_; simp) | (refine zc1 (by simp) (by simp [noIds]) (by repeat (first | assumption | exact Ext.refl _ | refine zbL ?_ | refine Ext.setF ?_ (by first | assumption | (simp [zb, St.set, zu]; done) | exact zar (by assumption)))) ?_; simp [-cellOK, b0, b2, b4, b8, n4, zg, zp, zbV, zcT, zas, -zaB, zl, zo, zb, nsE]) | (refine zm (fun hc => ?_) (fun hc => ?_) <;> try simp at hc) | fail)
end Go.Proofs.YtckabcbfbpejkaaGreatDoor.Av
