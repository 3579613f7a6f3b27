/- Rules: the laws RuleTexts, RuleMatches. Part 9 of 22: AvTy, AvGo, AvN1, AvN2, AvN3, AvN4, AvN5, AvN6, AvFzE, AvRS, AvN16, AvN12, AvN8, AvN9, AvN13, AvN14, AvN17, AvN22, AvN7, AvN11, AvT1, AvN10, AvT2, AvT3, AvT4, AvT5, AvT6, AvT7, AvT8, AvN25, AvT9, AvT10, AvN26, AvN27, AvN28, AvN29, AvN30, AvN15, AvN18, AvN19, AvN20, AvN21, AvZ1, AvZ2, AvZ4, AvZ5, AvZ6, AvZ3, AvP3, AvPB. -/
import Derived.Test.YtckabcbfbpejkaaGreatDoorRy8
import Derived.Test.YtckabcbfbpejkaaGreatDoorProg
namespace Go.Proofs.YtckabcbfbpejkaaGreatDoor.Av
set_option linter.unusedSimpArgs false
set_option linter.unusedVariables false
open Go
@[simp] theorem zrs : z6 Tryz.prog 3 = some 1 := by kernel_rfl
@[simp] theorem zrt : zag Tryz.prog 3 = some 8 := by kernel_rfl
@[simp] theorem zru : z7 Tryz.prog 3 = some (.int .i64 (0)) := by kernel_rfl
@[simp] theorem tag3 : zac Tryz.prog 3 = some false := by simp [zac, Tryz.underlying3]
@[simp] theorem arr3 : zR Tryz.prog 3 = none := by simp [zR, Tryz.underlying3]
@[simp] theorem uin3 : zcg Tryz.prog 3 = some .i64 := by kernel_rfl
@[simp] theorem pla3 : zbA Tryz.prog 3 = true := by kernel_rfl
@[simp] theorem tsz4 : z6 Tryz.prog 4 = some 1 := by kernel_rfl
@[simp] theorem tby4 : zag Tryz.prog 4 = some 1 := by kernel_rfl
@[simp] theorem tze4 : z7 Tryz.prog 4 = some (.bool false) := by kernel_rfl
@[simp] theorem tag4 : zac Tryz.prog 4 = some false := by simp [zac, Tryz.underlying4]
@[simp] theorem arr4 : zR Tryz.prog 4 = none := by simp [zR, Tryz.underlying4]
@[simp] theorem ubo4 : zeV Tryz.prog 4 = true := by kernel_rfl
@[simp] theorem pla4 : zbA Tryz.prog 4 = true := by kernel_rfl
@[simp] theorem tsz5 : z6 Tryz.prog 5 = some 1 := by kernel_rfl
@[simp] theorem tby5 : zag Tryz.prog 5 = some 1 := by kernel_rfl
@[simp] theorem tze5 : z7 Tryz.prog 5 = some (.int .u8 (0)) := by kernel_rfl
@[simp] theorem tag5 : zac Tryz.prog 5 = some false := by simp [zac, Tryz.underlying5]
@[simp] theorem arr5 : zR Tryz.prog 5 = none := by simp [zR, Tryz.underlying5]
@[simp] theorem uin5 : zcg Tryz.prog 5 = some .u8 := by kernel_rfl
@[simp] theorem pla5 : zbA Tryz.prog 5 = true := by kernel_rfl
@[simp] theorem zrv : z6 Tryz.prog 9 = some 1 := by kernel_rfl
@[simp] theorem zrw : zag Tryz.prog 9 = some 16 := by kernel_rfl
@[simp] theorem zrx : z7 Tryz.prog 9 = some (.string ⟨#[]⟩) := by kernel_rfl
@[simp] theorem tag9 : zac Tryz.prog 9 = some false := by simp [zac, Tryz.underlying9]
@[simp] theorem arr9 : zR Tryz.prog 9 = none := by simp [zR, Tryz.underlying9]
@[simp] theorem ust9 : zdT Tryz.prog 9 = true := by kernel_rfl
@[simp] theorem pla9 : zbA Tryz.prog 9 = true := by kernel_rfl
@[simp] theorem zs9 : z6 Tryz.prog 22 = some 1 := by kernel_rfl
@[simp] theorem zta : zag Tryz.prog 22 = some 8 := by kernel_rfl
@[simp] theorem ztb : z7 Tryz.prog 22 = some (.int .i64 (0)) := by kernel_rfl
@[simp] theorem ztc : zac Tryz.prog 22 = some false := by simp [zac, Tryz.underlying22]
@[simp] theorem ztd : zR Tryz.prog 22 = none := by simp [zR, Tryz.underlying22]
@[simp] theorem zte : zcg Tryz.prog 22 = some .i64 := by kernel_rfl
@[simp] theorem ztf : zbA Tryz.prog 22 = true := by kernel_rfl
@[simp] theorem ztg : z6 Tryz.prog 23 = some 1 := by kernel_rfl
@[simp] theorem zth : zag Tryz.prog 23 = some 4 := by kernel_rfl
@[simp] theorem zti : z7 Tryz.prog 23 = some (.int .u32 (0)) := by kernel_rfl
@[simp] theorem ztj : zac Tryz.prog 23 = some false := by simp [zac, Tryz.underlying23]
@[simp] theorem ztk : zR Tryz.prog 23 = none := by simp [zR, Tryz.underlying23]
@[simp] theorem ztl : zcg Tryz.prog 23 = some .u32 := by kernel_rfl
@[simp] theorem ztm : zbA Tryz.prog 23 = true := by kernel_rfl
@[simp] theorem ztn : z6 Tryz.prog 25 = some 2 := by kernel_rfl
@[simp] theorem zto : zag Tryz.prog 25 = some 8 := by kernel_rfl
@[simp] theorem ztp : z7 Tryz.prog 25 = some (.agg #[(.int .u32 (0)), (.int .u32 (0))]) := by kernel_rfl
@[simp] theorem ztq : zac Tryz.prog 25 = some true := by simp [zac, Tryz.underlying25]
@[simp] theorem ztr : zR Tryz.prog 25 = none := by simp [zR, Tryz.underlying25]
@[simp] theorem zts : zcj Tryz.prog 25 = true := by kernel_rfl
@[simp] theorem ztt : zeW Tryz.prog 25 = true := by kernel_rfl
@[simp] theorem zr0 : zat Tryz.prog 25 0 = some (23, 0) := by kernel_rfl
@[simp] theorem zr1 : zat Tryz.prog 25 1 = some (23, 1) := by kernel_rfl
@[simp] theorem ztu : zb1 Tryz.prog 25 = some [(23, 0), (23, 1)] := by kernel_rfl
@[simp] theorem ztv : Tryz.prog.eqGuardType Tryz.prog.depth 25 = false := by kernel_rfl
@[simp] theorem zqk : z6 Tryz.prog 27 = some 7 := by kernel_rfl
@[simp] theorem zql : zag Tryz.prog 27 = some 48 := by kernel_rfl
@[simp] theorem zqm : z7 Tryz.prog 27 = some (.agg #[(.int .i64 (0)), (.int .i64 (0)), (.int .i64 (0)), (.int .i64 (0)), (.int .u32 (0)), (.int .u32 (0)), (.int .i64 (0))]) := by kernel_rfl
@[simp] theorem ztw : zac Tryz.prog 27 = some true := by simp [zac, Tryz.underlying27]
@[simp] theorem ztx : zR Tryz.prog 27 = none := by simp [zR, Tryz.underlying27]
@[simp] theorem zty : zcj Tryz.prog 27 = true := by kernel_rfl
@[simp] theorem ztz : zeW Tryz.prog 27 = true := by kernel_rfl
@[simp] theorem zr2 : zat Tryz.prog 27 0 = some (3, 0) := by kernel_rfl
@[simp] theorem zr3 : zat Tryz.prog 27 1 = some (3, 1) := by kernel_rfl
@[simp] theorem zr4 : zat Tryz.prog 27 2 = some (3, 2) := by kernel_rfl
@[simp] theorem zr5 : zat Tryz.prog 27 3 = some (22, 3) := by kernel_rfl
@[simp] theorem zr6 : zat Tryz.prog 27 4 = some (25, 4) := by kernel_rfl
@[simp] theorem zr7 : zat Tryz.prog 27 5 = some (3, 6) := by kernel_rfl
@[simp] theorem ztA : zb1 Tryz.prog 27 = some [(3, 0), (3, 1), (3, 2), (22, 3), (25, 4), (3, 6)] := by kernel_rfl
@[simp] theorem znS : Tryz.prog.eqGuardType Tryz.prog.depth 27 = false := by kernel_rfl
@[simp] theorem ztB : z6 Tryz.prog 28 = some 1 := by kernel_rfl
@[simp] theorem ztC : zag Tryz.prog 28 = some 8 := by kernel_rfl
@[simp] theorem ztD : z7 Tryz.prog 28 = some .nilFunc := by kernel_rfl
@[simp] theorem ztE : zac Tryz.prog 28 = some false := by simp [zac, Tryz.underlying28]
@[simp] theorem ztF : zR Tryz.prog 28 = none := by simp [zR, Tryz.underlying28]
@[simp] theorem ztG : z6 Tryz.prog 35 = some 1 := by kernel_rfl
@[simp] theorem ztH : zag Tryz.prog 35 = some 24 := by kernel_rfl
@[simp] theorem ztI : z7 Tryz.prog 35 = some (.slice none 0 0) := by kernel_rfl
@[simp] theorem ztJ : zac Tryz.prog 35 = some false := by simp [zac, Tryz.underlying35]
@[simp] theorem ztK : zR Tryz.prog 35 = none := by simp [zR, Tryz.underlying35]
@[simp] theorem zqn : zaa Tryz.prog 35 = some 27 := by kernel_rfl
@[simp] theorem ztL : z6 Tryz.prog 36 = some 2 := by kernel_rfl
@[simp] theorem ztM : zag Tryz.prog 36 = some 16 := by kernel_rfl
@[simp] theorem ztN : z7 Tryz.prog 36 = some (.agg #[(.int .i64 (0)), (.int .i64 (0))]) := by kernel_rfl
@[simp] theorem ztO : zac Tryz.prog 36 = some true := by simp [zac, Tryz.underlying36]
@[simp] theorem ztP : zR Tryz.prog 36 = some (2, 3) := by simp [zR, Tryz.underlying36]
@[simp] theorem ztQ : z6 Tryz.prog 46 = some 4 := by kernel_rfl
@[simp] theorem ztR : zag Tryz.prog 46 = some 64 := by kernel_rfl
@[simp] theorem ztS : z7 Tryz.prog 46 = some (.agg #[(.string ⟨#[]⟩), (.string ⟨#[]⟩), (.string ⟨#[]⟩), (.string ⟨#[]⟩)]) := by kernel_rfl
@[simp] theorem ztT : zac Tryz.prog 46 = some true := by simp [zac, Tryz.underlying46]
@[simp] theorem ztU : zR Tryz.prog 46 = some (4, 9) := by simp [zR, Tryz.underlying46]
@[simp] theorem ztV : z6 Tryz.prog 50 = some 1 := by kernel_rfl
@[simp] theorem ztW : zag Tryz.prog 50 = some 24 := by kernel_rfl
@[simp] theorem ztX : z7 Tryz.prog 50 = some (.slice none 0 0) := by kernel_rfl
@[simp] theorem ztY : zac Tryz.prog 50 = some false := by simp [zac, Tryz.underlying50]
@[simp] theorem ztZ : zR Tryz.prog 50 = none := by simp [zR, Tryz.underlying50]
@[simp] theorem zqo : zaa Tryz.prog 50 = some 9 := by kernel_rfl
@[simp] theorem zt0 : z6 Tryz.prog 75 = some 1 := by kernel_rfl
@[simp] theorem zt1 : zag Tryz.prog 75 = some 16 := by kernel_rfl
@[simp] theorem zt2 : z7 Tryz.prog 75 = some .nilIface := by kernel_rfl
@[simp] theorem zt3 : zac Tryz.prog 75 = some false := by simp [zac, Tryz.underlying75]
@[simp] theorem zt4 : zR Tryz.prog 75 = none := by simp [zR, Tryz.underlying75]
@[simp] theorem zt5 : zfA Tryz.prog 75 = true := by kernel_rfl
@[simp] theorem zt6 : z6 Tryz.prog 81 = some 2 := by kernel_rfl
@[simp] theorem zt7 : zag Tryz.prog 81 = some 16 := by kernel_rfl
@[simp] theorem zt8 : z7 Tryz.prog 81 = some (.agg #[(.int .u32 (0)), (.int .i64 (0))]) := by kernel_rfl
@[simp] theorem zt9 : zac Tryz.prog 81 = some true := by simp [zac, Tryz.underlying81]
@[simp] theorem zua : zR Tryz.prog 81 = none := by simp [zR, Tryz.underlying81]
@[simp] theorem zub : zcj Tryz.prog 81 = true := by kernel_rfl
@[simp] theorem zuc : zeW Tryz.prog 81 = true := by kernel_rfl
@[simp] theorem zr8 : zat Tryz.prog 81 0 = some (23, 0) := by kernel_rfl
@[simp] theorem zr9 : zat Tryz.prog 81 1 = some (3, 1) := by kernel_rfl
@[simp] theorem zud : zb1 Tryz.prog 81 = some [(23, 0), (3, 1)] := by kernel_rfl
@[simp] theorem zue : Tryz.prog.eqGuardType Tryz.prog.depth 81 = false := by kernel_rfl
@[simp] theorem zuf : z6 Tryz.prog 90 = some 1 := by kernel_rfl
@[simp] theorem zug : zag Tryz.prog 90 = some 8 := by kernel_rfl
@[simp] theorem zuh : z7 Tryz.prog 90 = some (.int .u64 (0)) := by kernel_rfl
@[simp] theorem zui : zac Tryz.prog 90 = some false := by simp [zac, Tryz.underlying90]
@[simp] theorem zuj : zR Tryz.prog 90 = none := by simp [zR, Tryz.underlying90]
@[simp] theorem zuk : zcg Tryz.prog 90 = some .u64 := by kernel_rfl
@[simp] theorem zul : zbA Tryz.prog 90 = true := by kernel_rfl
@[simp] theorem zum : z6 Tryz.prog 97 = some 4 := by kernel_rfl
@[simp] theorem zun : zag Tryz.prog 97 = some 4 := by kernel_rfl
@[simp] theorem zuo : z7 Tryz.prog 97 = some (.agg #[(.int .u8 (0)), (.int .u8 (0)), (.int .u8 (0)), (.int .u8 (0))]) := by kernel_rfl
@[simp] theorem zup : zac Tryz.prog 97 = some true := by simp [zac, Tryz.underlying97]
@[simp] theorem zuq : zR Tryz.prog 97 = some (4, 5) := by simp [zR, Tryz.underlying97]
@[simp] theorem zsE : z6 Tryz.prog 109 = some 1 := by kernel_rfl
@[simp] theorem zsF : zag Tryz.prog 109 = some 8 := by kernel_rfl
@[simp] theorem zsG : z7 Tryz.prog 109 = some (.int .u64 (0)) := by kernel_rfl
@[simp] theorem zsH : zac Tryz.prog 109 = some false := by simp [zac, Tryz.underlying109]
@[simp] theorem zsI : zR Tryz.prog 109 = none := by simp [zR, Tryz.underlying109]
@[simp] theorem zsJ : zcg Tryz.prog 109 = some .u64 := by kernel_rfl
@[simp] theorem zsK : zbA Tryz.prog 109 = true := by kernel_rfl
@[simp] theorem zsL : z6 Tryz.prog 126 = some 1 := by kernel_rfl
@[simp] theorem zsM : zag Tryz.prog 126 = some 24 := by kernel_rfl
@[simp] theorem zsN : z7 Tryz.prog 126 = some (.slice none 0 0) := by kernel_rfl
@[simp] theorem zsO : zac Tryz.prog 126 = some false := by simp [zac, Tryz.underlying126]
@[simp] theorem zsP : zR Tryz.prog 126 = none := by simp [zR, Tryz.underlying126]
@[simp] theorem zoW : zaa Tryz.prog 126 = some 3 := by kernel_rfl
theorem zlN : SlT Tryz.prog 35 7 48 := ⟨⟨27, _, zqn, zqk, zql, zqm, rfl, by decide, by decide⟩⟩
theorem zjn : SlT Tryz.prog 50 1 16 := ⟨⟨9, _, zqo, zrv, zrw, zrx, rfl, by decide, by decide⟩⟩
theorem zsQ : SlT Tryz.prog 126 1 8 := ⟨⟨3, _, zoW, zrs, zrt, zru, rfl, by decide, by decide⟩⟩
theorem mixed : Tryz.prog.follows .mixedOrders = true := by kernel_rfl
end Go.Proofs.YtckabcbfbpejkaaGreatDoor.Av
namespace Go.Proofs.YtckabcbfbpejkaaGreatDoor.Av
set_option linter.unusedSimpArgs false
set_option linter.unusedVariables false
open Go
theorem Ext.setF {σ τ : St} {i : Id} {o : Ob} (h : Ext σ τ) (hi : σ.m i = none) : Ext σ (τ.set i o) := ⟨fun j p hj => by
    have hne : j ≠ i := fun e => by rw [e, hi] at hj; cases hj
    simp only [St.set, hne, false_and, if_false]
    exact h.m j p hj, h.nx⟩
theorem zld {τ : St} {i : Id} {o p : Ob} (h : τ.m i = some p) : (τ.set i o).m i = some o := by simp [St.set, h]
theorem zoX {τ : St} {i j : Id} {o : Ob} (h : j ≠ i) : (τ.set i o).m j = τ.m j := by simp [St.set, h]
theorem zl {σ : St} {slot sz : Nat} {o : Ob} {j : Id} : (σ.new slot sz o).m j = if j = ⟨slot, σ.nx slot, sz⟩ then some o else σ.m j := rfl
theorem zo {σ : St} {i j : Id} {o : Ob} : (σ.set i o).m j = if j = i ∧ (σ.m i).isSome = true then some o else σ.m j := rfl
theorem zb {σ : St} {slot sz s : Nat} {o : Ob} : (σ.new slot sz o).nx s = if s = slot then σ.nx s + 1 else σ.nx s := rfl
section
variable {P : Program} {N : Nat} {A : zn} {σ σ0 : St} {r : Option Nat} {K : Exit → zn → St → Prop}
def zeh (v : AV) (X Y : Prop) : Prop := zee v X Y
@[congr] theorem zpJ {tk : Prop} (hx : (True ∧ True) = tk) {v v' : AV} {X Y : Prop} (h : v = v') : zeh v X Y = zeh v' X Y := by rw [h]
@[simp] theorem zsa {X Y : Prop} : zeh (.raw (.bool true)) X Y = X := by simp [zeh, zee]
@[simp] theorem zsb {X Y : Prop} : zeh (.raw (.bool false)) X Y = Y := by simp [zeh, zee]
theorem zt {c : Operand} {x y : Code} (h : zeh (zd A c) (AWP P r N x K A σ) (AWP P r N y K A σ)) : AWP P r N (.cond c x y) K A σ := zgV h
theorem zm {b : Bool} {X Y : Prop} (h1 : b = true → X) (h2 : b = false → Y) : zeh (.raw (.bool b)) X Y := ⟨h1, h2⟩
def zlO (P : Program) (r : Option Nat) (N : Nat) (c : Code) (K : Exit → zn → St → Prop) (A : zn) (σ : St) : Prop := match c with
  | .skip => K .normal A σ
  | .exit n => K (.exit n) A σ
  | .ret => K .ret A σ
  | c => AWP P r N c K A σ
theorem zO {c : Code} (h : zlO P r N c K A σ) : AWP P r N c K A σ := by
  cases c <;> first | exact zm9 h | exact zna h | exact zla h | exact h
theorem zP : zlO P r N .skip K A σ = K .normal A σ ∧ (∀ n, zlO P r N (.exit n) K A σ = K (.exit n) A σ) ∧ zlO P r N .ret K A σ = K .ret A σ := ⟨rfl, fun _ => rfl, rfl⟩
theorem dN {id : Nat} {ops : List Oper} (hc : zii ops (fun _ => false) = true) (h : dops Tryz.prog N (ops.map (zbK ops fun _ => false)) A σ (K .normal)) : AWP Tryz.prog r N (.region id ops.toArray true) K A σ := zfT _ mixed hc h
theorem dC {id : Nat} {ops : List Oper} (hc : zii ops zgj = true) (h : dops Tryz.prog N (ops.map (zbK ops zgj)) A σ (K .normal)) : AWP Tryz.prog r N (.region id ops.toArray true) K A σ := zfT _ mixed hc h
theorem uP {f : FuncId} {args : List AV} {rv : AV} {K : AV → St → Prop} (h : PCalls P f args rv) (k : K rv σ) : ACalls P f args σ K := h.use k
theorem uD {f : FuncId} {args : List AV} {rv : AV} {X : Prop} {m : zL} {K : AV → St → Prop} (h : PCalls P f args rv) (k : K rv σ) : (∃ r, RCalls P m f args r ∧ K r σ) ∨ X := .inl ⟨_, .inl h, k⟩
theorem nsE : (∀ {σ : St} {slot sz : Nat} {o : Ob} {j : Id}, (σ.new slot sz o).m j = if j = ⟨slot, σ.nx slot, sz⟩ then some o else σ.m j) ∧ (∀ {σ : St} {i j : Id} {o : Ob}, (σ.set i o).m j = if j = i ∧ (σ.m i).isSome = true then some o else σ.m j) ∧ (∀ {σ : St} {slot sz s : Nat} {o : Ob}, (σ.new slot sz o).nx s = if s = slot then σ.nx s + 1 else σ.nx s) := ⟨rfl, rfl, rfl⟩
end
structure Hd (H : Prop) : Prop where
  h : H
theorem zJ {G : Prop} (w : G := by (try ((first | with_reducible refine zy ?_ | with_reducible refine zG ?_ | with_reducible refine zH ?_); simp [-cellOK, FF])); repeat' (first | ((first | refine zt ?_ | refine zw ?_ | refine dN (by decide +kernel) ?_ | refine dC (by decide +kernel) ?_ | refine uP (by assumption) ?_ | refine .inl ⟨_, .inl (by assumption), ?_⟩ | (refine zh ?_ ?_ <;> (intro hg; simp only [hg])) | fail) <;> simp [-cellOK, FF]) | refine zv ?_ | refine zr ?_ | (refine zO ?_; simp only [zP]; try simp) | (refine zI (by simp) ?_; simp) | (refine zc1 (by simp) (by simp [noIds]) (by repeat (first | assumption | exact Ext.refl _ | refine zbL ?_ | refine Ext.setF ?_ (by first | assumption | (simp [zb, St.set, zu]; done) | exact zar (by assumption)))) ?_; simp [-cellOK, FF, nsE]) | (refine zm (fun hc => ?_) (fun hc => ?_) <;> try simp at hc) | fail)) : G := w
theorem gxB {G H : Prop} (k : H) (w : Hd H → G := by intro hH; (try ((first | with_reducible refine zy ?_ | with_reducible refine zG ?_ | with_reducible refine zH ?_); simp [-cellOK, FF])); (repeat' (first | ((first | refine zt ?_ | refine zw ?_ | refine dN (by decide +kernel) ?_ | refine dC (by decide +kernel) ?_ | refine uP (by assumption) ?_ | refine .inl ⟨_, .inl (by assumption), ?_⟩ | (refine zh ?_ ?_ <;> (intro hg; simp only [hg])) | fail) <;> simp [-cellOK, FF]) | refine zv ?_ | refine zr ?_ | (refine zO ?_; simp only [zP]; try simp) | (refine zI (by simp) ?_; simp) | (refine zc1 (by simp) (by simp [noIds]) (by repeat (first | assumption | exact Ext.refl _ | refine zbL ?_ | refine Ext.setF ?_ (by first | assumption | (simp [zb, St.set, zu]; done) | exact zar (by assumption)))) ?_; simp [-cellOK, FF, nsE]) | (refine zm (fun hc => ?_) (fun hc => ?_) <;> try simp at hc) | fail)); exact hH.h) : G := w ⟨k⟩
theorem gxC {G H : Prop} (k : H) (w : Hd H → G := by intro hH; (try ((first | with_reducible refine zy ?_ | with_reducible refine zG ?_ | with_reducible refine zH ?_); simp [-cellOK, FF])); (repeat' (first | ((first | refine zt ?_ | refine zw ?_ | refine dN (by decide +kernel) ?_ | refine dC (by decide +kernel) ?_ | refine uP (by assumption) ?_ | refine .inl ⟨_, .inl (by assumption), ?_⟩ | (refine zh ?_ ?_ <;> (intro hg; simp only [hg])) | fail) <;> simp [-cellOK, FF]) | refine zv ?_ | refine zr ?_ | (refine zO ?_; simp only [zP]; try simp) | (refine zm (fun hc => ?_) (fun hc => ?_) <;> try simp at hc) | fail)); exact hH.h) : G := w ⟨k⟩
theorem goA {G : Prop} (w : G := by (try ((first | with_reducible refine zy ?_ | with_reducible refine zG ?_ | with_reducible refine zH ?_); simp [FF])); repeat' (first | ((first | refine zt ?_ | refine zw ?_ | refine dN (by decide +kernel) ?_ | (refine zh ?_ ?_ <;> (intro hg; simp only [hg])) | fail) <;> simp [FF]) | refine zv ?_ | refine zr ?_ | (refine zO ?_; simp only [zP]; try simp) | ((first | refine zI (by simp) ?_ | refine zF (by simp) (by simp) (by simp (maxDischargeDepth := 30) [FF]) ?_ | fail); simp) | (refine zm (fun hc => ?_) (fun hc => ?_) <;> try simp at hc) | fail)) : G := w
theorem goB {G H : Prop} (k : H) (w : Hd H → G := by intro hH; (try ((first | with_reducible refine zy ?_ | with_reducible refine zG ?_ | with_reducible refine zH ?_); simp [FF])); (repeat' (first | ((first | refine zt ?_ | refine zw ?_ | refine dN (by decide +kernel) ?_ | (refine zh ?_ ?_ <;> (intro hg; simp only [hg])) | fail) <;> simp [FF]) | refine zv ?_ | refine zr ?_ | (refine zO ?_; simp only [zP]; try simp) | ((first | refine zI (by simp) ?_ | refine zF (by simp) (by simp) (by simp (maxDischargeDepth := 30) [FF]) ?_ | fail); simp) | (refine zm (fun hc => ?_) (fun hc => ?_) <;> try simp at hc) | fail)); exact hH.h) : G := w ⟨k⟩
theorem goC {G H : Prop} (k : H) (w : Hd H → G := by intro hH; (try ((first | with_reducible refine zy ?_ | with_reducible refine zG ?_ | with_reducible refine zH ?_); simp [FF])); (repeat' (first | ((first | refine zt ?_ | refine zw ?_ | refine dN (by decide +kernel) ?_ | (refine zh ?_ ?_ <;> (intro hg; simp only [hg])) | fail) <;> simp [FF]) | refine zv ?_ | refine zr ?_ | (refine zO ?_; simp only [zP]; try simp) | (refine zm (fun hc => ?_) (fun hc => ?_) <;> try simp at hc) | fail)); exact hH.h) : G := w ⟨k⟩
theorem goN {G : Prop} (w : G := by (try ((first | with_reducible refine zy ?_ | with_reducible refine zG ?_ | with_reducible refine zH ?_); simp [FF])); repeat' (first | ((first | refine zw ?_ | refine dN (by decide +kernel) ?_ | (refine zh ?_ ?_ <;> (intro hg; simp only [hg])) | fail) <;> simp [FF]) | refine zv ?_ | refine zr ?_ | (refine zO ?_; simp only [zP]; try simp) | ((first | refine zI (by simp) ?_ | refine zF (by simp) (by simp) (by simp (maxDischargeDepth := 30) [FF]) ?_ | fail); simp) | (apply zhJ; focus (simp [FF]; done)) | (apply zhK; focus (simp [FF]; done)) | fail)) : G := w
theorem goM {G H : Prop} (k : H) (w : Hd H → G := by intro hH; (try ((first | with_reducible refine zy ?_ | with_reducible refine zG ?_ | with_reducible refine zH ?_); simp [FF])); (repeat' (first | ((first | refine zw ?_ | refine dN (by decide +kernel) ?_ | (refine zh ?_ ?_ <;> (intro hg; simp only [hg])) | fail) <;> simp [FF]) | refine zv ?_ | refine zr ?_ | (refine zO ?_; simp only [zP]; try simp) | ((first | refine zI (by simp) ?_ | refine zF (by simp) (by simp) (by simp (maxDischargeDepth := 30) [FF]) ?_ | fail); simp) | (apply zhJ; focus (simp [FF]; done)) | (apply zhK; focus (simp [FF]; done)) | fail)); exact hH.h) : G := w ⟨k⟩
theorem zj1 {G : Prop} (w : G := by (try ((first | with_reducible refine zy ?_ | with_reducible refine zG ?_ | with_reducible refine zH ?_); simp [-cellOK])); repeat' (first | ((first | refine zt ?_ | refine zw ?_ | refine dN (by decide +kernel) ?_ | refine dC (by decide +kernel) ?_ | refine uP (by assumption) ?_ | refine .inl ⟨_, .inl (by assumption), ?_⟩ | (refine zh ?_ ?_ <;> (intro hg; simp only [hg])) | fail) <;> simp [-cellOK]) | refine zv ?_ | refine zr ?_ | (refine zO ?_; simp only [zP]; try simp) | (refine zI (by simp) ?_; simp) | (refine zc1 (by simp) (by simp [noIds]) (by repeat (first | assumption | exact Ext.refl _ | refine zbL ?_ | refine Ext.setF ?_ (by first | assumption | (simp [zb, St.set, zu]; done) | exact zar (by assumption)))) ?_; simp [-cellOK, nsE]) | (refine zm (fun hc => ?_) (fun hc => ?_) <;> try simp at hc) | fail)) : G := w
theorem gxB0 {G H : Prop} (k : H) (w : Hd H → G := by intro hH; (try ((first | with_reducible refine zy ?_ | with_reducible refine zG ?_ | with_reducible refine zH ?_); simp [-cellOK])); (repeat' (first | ((first | refine zt ?_ | refine zw ?_ | refine dN (by decide +kernel) ?_ | refine dC (by decide +kernel) ?_ | refine uP (by assumption) ?_ | refine .inl ⟨_, .inl (by assumption), ?_⟩ | (refine zh ?_ ?_ <;> (intro hg; simp only [hg])) | fail) <;> simp [-cellOK]) | refine zv ?_ | refine zr ?_ | (refine zO ?_; simp only [zP]; try simp) | (refine zI (by simp) ?_; simp) | (refine zc1 (by simp) (by simp [noIds]) (by repeat (first | assumption | exact Ext.refl _ | refine zbL ?_ | refine Ext.setF ?_ (by first | assumption | (simp [zb, St.set, zu]; done) | exact zar (by assumption)))) ?_; simp [-cellOK, nsE]) | (refine zm (fun hc => ?_) (fun hc => ?_) <;> try simp at hc) | fail)); exact hH.h) : G := w ⟨k⟩
theorem zoZ {G H : Prop} (k : H) (w : Hd H → G := by intro hH; (try ((first | with_reducible refine zy ?_ | with_reducible refine zG ?_ | with_reducible refine zH ?_); simp [-cellOK])); (repeat' (first | ((first | refine zt ?_ | refine zw ?_ | refine dN (by decide +kernel) ?_ | refine dC (by decide +kernel) ?_ | refine uP (by assumption) ?_ | refine .inl ⟨_, .inl (by assumption), ?_⟩ | (refine zh ?_ ?_ <;> (intro hg; simp only [hg])) | fail) <;> simp [-cellOK]) | refine zv ?_ | refine zr ?_ | (refine zO ?_; simp only [zP]; try simp) | (refine zm (fun hc => ?_) (fun hc => ?_) <;> try simp at hc) | fail)); exact hH.h) : G := w ⟨k⟩
theorem zik {G : Prop} (w : G := by (try ((first | with_reducible refine zy ?_ | with_reducible refine zG ?_ | with_reducible refine zH ?_); simp)); repeat' (first | ((first | refine zt ?_ | refine zw ?_ | refine dN (by decide +kernel) ?_ | (refine zh ?_ ?_ <;> (intro hg; simp only [hg])) | fail) <;> simp) | refine zv ?_ | refine zr ?_ | (refine zO ?_; simp only [zP]; try simp) | ((first | refine zI (by simp) ?_ | refine zF (by simp) (by simp) (by simp (maxDischargeDepth := 30)) ?_ | fail); simp) | (refine zm (fun hc => ?_) (fun hc => ?_) <;> try simp at hc) | fail)) : G := w
theorem zj2 {G H : Prop} (k : H) (w : Hd H → G := by intro hH; (try ((first | with_reducible refine zy ?_ | with_reducible refine zG ?_ | with_reducible refine zH ?_); simp)); (repeat' (first | ((first | refine zt ?_ | refine zw ?_ | refine dN (by decide +kernel) ?_ | (refine zh ?_ ?_ <;> (intro hg; simp only [hg])) | fail) <;> simp) | refine zv ?_ | refine zr ?_ | (refine zO ?_; simp only [zP]; try simp) | ((first | refine zI (by simp) ?_ | refine zF (by simp) (by simp) (by simp (maxDischargeDepth := 30)) ?_ | fail); simp) | (refine zm (fun hc => ?_) (fun hc => ?_) <;> try simp at hc) | fail)); exact hH.h) : G := w ⟨k⟩
theorem znq {G H : Prop} (k : H) (w : Hd H → G := by intro hH; (try ((first | with_reducible refine zy ?_ | with_reducible refine zG ?_ | with_reducible refine zH ?_); simp)); (repeat' (first | ((first | refine zt ?_ | refine zw ?_ | refine dN (by decide +kernel) ?_ | (refine zh ?_ ?_ <;> (intro hg; simp only [hg])) | fail) <;> simp) | refine zv ?_ | refine zr ?_ | (refine zO ?_; simp only [zP]; try simp) | (refine zm (fun hc => ?_) (fun hc => ?_) <;> try simp at hc) | fail)); exact hH.h) : G := w ⟨k⟩
theorem goD {G H : Prop} (k : H) (w : Hd H → G := by intro hH; (try ((first | with_reducible refine zy ?_ | with_reducible refine zG ?_ | with_reducible refine zH ?_); simp)); exact hH.h) : G := w ⟨k⟩
theorem exA {σ τ : St} (w : Ext σ τ := by repeat (first | assumption | exact Ext.refl _ | refine zbL ?_ | refine Ext.setF ?_ (by first | assumption | (simp [zb, St.set, zu]; done) | exact zar (by assumption)))) : Ext σ τ := w
theorem fI {a b : Prop} (h : a) (k : b) : a ∧ b := ⟨h, k⟩
end Go.Proofs.YtckabcbfbpejkaaGreatDoor.Av
namespace Go.Proofs.YtckabcbfbpejkaaGreatDoor.Av
open Go
set_option linter.unusedSimpArgs false
set_option linter.unusedVariables false
set_option maxRecDepth 100000
set_option maxHeartbeats 1000000
set_option pp.maxSteps 300
structure Pt where
  dev : Int
  port : Int
deriving DecidableEq
structure Lk where
  a : Pt
  b : Pt
deriving DecidableEq
structure Rg where
  lo : Int
  hi : Int
deriving DecidableEq
structure Ru where
  id : Int
  dev : Int
  prio : Int
  kind : Int
  r : Rg
  port : Int
deriving DecidableEq
structure Tp where
  ports : List Int
  links : List Lk
deriving DecidableEq
structure Nw where
  t : Tp
  rules : List Ru
deriving DecidableEq
def iAV (n : Int) : AV := .raw (.int .i64 n)
def uAV (n : Int) : AV := .raw (.int .u32 n)
def zry (p : Pt) : AV := .agg [.raw (.int .i64 p.dev), .raw (.int .i64 p.port)]
def zrz (l : Lk) : AV := .agg [.raw (.int .i64 l.a.dev), .raw (.int .i64 l.a.port), .raw (.int .i64 l.b.dev), .raw (.int .i64 l.b.port)]
def zg4 (r : Rg) : AV := .agg [.raw (.int .u32 r.lo), .raw (.int .u32 r.hi)]
def zc (r : Ru) : AV := .agg [.raw (.int .i64 r.id), .raw (.int .i64 r.dev), .raw (.int .i64 r.prio), .raw (.int .i64 r.kind), .raw (.int .u32 r.r.lo), .raw (.int .u32 r.r.hi), .raw (.int .i64 r.port)]
def zaI (l : List Int) (f : Bool) : AV := .sl 1 (l.map iAV) f
def zil (l : List Lk) (f : Bool) : AV := .sl 4 (l.map zrz) f
def za (l : List Ru) (f : Bool) : AV := .sl 7 (l.map zc) f
structure Fl where
  p : Bool
  l : Bool
  r : Bool
def tpAV (t : Tp) (f : Fl) : AV := .agg [zaI t.ports f.p, zil t.links f.l]
def zrA (n : Nw) (f : Fl) : AV := .agg [zaI n.t.ports f.p, zil n.t.links f.l, za n.rules f.r]
def hasB (t : Tp) (p : Pt) : Bool := decide (0 ≤ p.dev) && match t.ports[p.dev.toNat]? with | some n => decide (0 ≤ p.port) && decide (p.port < n) | none => false
theorem zbC (n a b : Int) : PCalls Tryz.prog 20 [.raw (.int .i64 n), .raw (.int .i64 a), .raw (.int .i64 b)] (.raw (.bool (decide (a ≤ n) && decide (n ≤ b)))) := by
  refine zD Tryz.func20 rfl (N := 15) rfl rfl (by simp) (by simp [noIds]) fun σ => ?_
  exact zik
theorem zbr (n b : Int) : PCalls Tryz.prog 19 [.raw (.int .i64 n), .raw (.int .i64 b)] (.raw (.bool (decide (0 ≤ n) && decide (n ≤ b)))) := by
  refine zD Tryz.func19 rfl (N := 12) rfl rfl (by simp) (by simp [noIds]) fun σ => ?_
  exact zik
def zeJ (r : Ru) (d a : Int) : Bool := decide (r.dev = d) && (decide (r.r.lo ≤ a) && decide (a ≤ r.r.hi))
theorem zgC (r : Ru) (d a : Int) : PCalls Tryz.prog 43 [zc r, .raw (.int .i64 d), .raw (.int .u32 a)] (.raw (.bool (zeJ r d a))) := by
  refine zD Tryz.func43 rfl (N := 25) rfl rfl (by simp) (by simp [noIds]) fun σ => ?_
  (try ((first | with_reducible refine zy ?_ | with_reducible refine zG ?_ | with_reducible refine zH ?_); simp [zc])); repeat' (first | ((first | refine zt ?_ | refine zw ?_ | refine dN (by decide +kernel) ?_ | (refine zh ?_ ?_ <;> (intro hg; simp only [hg])) | fail) <;> simp [zc]) | refine zv ?_ | refine zr ?_ | (refine zO ?_; simp only [zP]; try simp) | ((first | refine zI (by simp) ?_ | refine zF (by simp) (by simp) (by simp (maxDischargeDepth := 30) [zc]) ?_ | fail); simp) | (refine zm (fun hc => ?_) (fun hc => ?_) <;> try simp at hc) | fail)
  all_goals (simp_all [zeJ] <;> intros <;> omega)
theorem zgD (a : Int) : PCalls Tryz.prog 63 [.raw (.int .i64 a)] (.raw (.bool false)) := by
  refine zD Tryz.func63 rfl (N := 6) rfl rfl (by simp) (by simp [noIds]) fun σ => ?_
  exact zik
def cmpI (a b : Int) : Int := if a < b then -1 else if b < a then 1 else 0
theorem zdp (a b : Int) : PCalls Tryz.prog 40 [.raw (.int .i64 a), .raw (.int .i64 b)] (.raw (.int .i64 (cmpI a b))) := by
  refine zD Tryz.func40 rfl (N := 20) rfl rfl (by simp) (by simp [noIds]) fun σ => ?_
  refine zj2 ?_
  refine PCalls.use (zgD a) ?_
  refine zj2 ?_
  refine PCalls.use (zgD b) ?_
  (try ((first | with_reducible refine zy ?_ | with_reducible refine zG ?_ | with_reducible refine zH ?_); simp [cmpI])); repeat' (first | ((first | refine zt ?_ | refine zw ?_ | refine dN (by decide +kernel) ?_ | (refine zh ?_ ?_ <;> (intro hg; simp only [hg])) | fail) <;> simp [cmpI]) | refine zv ?_ | refine zr ?_ | (refine zO ?_; simp only [zP]; try simp) | ((first | refine zI (by simp) ?_ | refine zF (by simp) (by simp) (by simp (maxDischargeDepth := 30) [cmpI]) ?_ | fail); simp) | (refine zm (fun hc => ?_) (fun hc => ?_) <;> try simp at hc) | fail)
  all_goals (unfold cmpI; (repeat' split) <;> omega)
end Go.Proofs.YtckabcbfbpejkaaGreatDoor.Av
namespace Go.Proofs.YtckabcbfbpejkaaGreatDoor.Av
open Go
set_option linter.unusedSimpArgs false
set_option linter.unusedVariables false
set_option maxRecDepth 100000
set_option maxHeartbeats 1000000
set_option pp.maxSteps 300
theorem znr (a b : Int) (f : Bool) : PCalls Tryz.prog 84 [zaI [a, b] f] (.raw (.int .i64 (if a = 0 then b else a))) := by
  refine zD Tryz.func84 rfl (N := 18) rfl rfl (by simp) (by simp [noIds]) fun σ => ?_
  have FF := fI zaI.eq_1 iAV.eq_1; refine goB ?_; clear FF
  refine z1 (fun n A τ => τ = σ ∧ A 3 = .raw (.int .i64 0) ∧ A 6 = zaI [a, b] f ∧ A 7 = .raw (.int .i64 2) ∧ ∃ i : Nat, A 8 = .raw (.int .i64 i) ∧ i ≤ 2 ∧ n = 2 - i ∧ (0 < i → a = 0) ∧ (1 < i → b = 0)) 2 ?_ ?_
  · exact ⟨by simp, by simp, by simp [zaI, iAV], by simp, 0, by simp, by omega, by omega, fun h => by omega, fun h => by omega⟩
  rintro n A τ ⟨rfl, a3, a6, a7, i, a8, hi, rfl, h0, h1⟩ I1 hI1
  by_cases hlt : i < 2
  · rcases (show i = 0 ∨ i = 1 by omega) with rfl | rfl
    · have w1 : IntKind.i64.wrap 1 = 1 := zA (by omega) (by omega)
      (try ((first | with_reducible refine zy ?_ | with_reducible refine zG ?_ | with_reducible refine zH ?_); simp [a3, a6, a7, a8, zaI, iAV, w1])); repeat' (first | ((first | refine zt ?_ | refine zw ?_ | refine dN (by decide +kernel) ?_ | (refine zh ?_ ?_ <;> (intro hg; simp only [hg])) | fail) <;> simp [a3, a6, a7, a8, zaI, iAV, w1]) | refine zv ?_ | refine zr ?_ | (refine zO ?_; simp only [zP]; try simp) | ((first | refine zI (by simp) ?_ | refine zF (by simp) (by simp) (by simp (maxDischargeDepth := 30) [a3, a6, a7, a8, zaI, iAV, w1]) ?_ | fail); simp) | (refine zm (fun hc => ?_) (fun hc => ?_) <;> try simp at hc) | fail)
      · simp_all
      · exact hI1 1 _ _ (by omega) ⟨by simp, by simp [a3], by simp [a6, zaI, iAV], by simp [a7], 1, by simp, by omega, by omega, fun _ => by simpa using hc, fun h => by omega⟩
    · have ha := h0 (by omega)
      have w1 : IntKind.i64.wrap 2 = 2 := zA (by omega) (by omega)
      (try ((first | with_reducible refine zy ?_ | with_reducible refine zG ?_ | with_reducible refine zH ?_); simp [a3, a6, a7, a8, zaI, iAV, w1])); repeat' (first | ((first | refine zt ?_ | refine zw ?_ | refine dN (by decide +kernel) ?_ | (refine zh ?_ ?_ <;> (intro hg; simp only [hg])) | fail) <;> simp [a3, a6, a7, a8, zaI, iAV, w1]) | refine zv ?_ | refine zr ?_ | (refine zO ?_; simp only [zP]; try simp) | ((first | refine zI (by simp) ?_ | refine zF (by simp) (by simp) (by simp (maxDischargeDepth := 30) [a3, a6, a7, a8, zaI, iAV, w1]) ?_ | fail); simp) | (refine zm (fun hc => ?_) (fun hc => ?_) <;> try simp at hc) | fail)
      · simp_all
      · exact hI1 0 _ _ (by omega) ⟨by simp, by simp [a3], by simp [a6, zaI, iAV], by simp [a7], 2, by simp, by omega, by omega, fun _ => ha, fun _ => by simpa using hc⟩
  · have : i = 2 := by omega
    subst this
    have ha := h0 (by omega)
    have hb := h1 (by omega)
    subst ha; subst hb
    have FF := fI @a3 (fI @a6 (fI @a7 (fI @a8 (fI zaI.eq_1 iAV.eq_1)))); exact goA
def zay (r : Ru) : Bool := decide (1 ≤ r.id) && decide (r.id ≤ 1048576) && (decide (0 ≤ r.dev) && decide (r.dev ≤ 7)) && (decide (0 ≤ r.prio) && decide (r.prio ≤ 1024)) && (decide (0 ≤ r.kind) && decide (r.kind ≤ 3)) &&
  (decide (0 ≤ r.port) && decide (r.port ≤ 3)) && (decide (r.kind = 0) || decide (r.port = 0)) && decide (r.r.lo ≤ r.r.hi)
theorem zcK (r : Ru) : PCalls Tryz.prog 34 [zc r] (.raw (.bool (zay r))) := by
  obtain ⟨b1, h1⟩ : ∃ b, (decide (1 ≤ r.id) && decide (r.id ≤ 1048576)) = b := ⟨_, rfl⟩
  obtain ⟨b2, h2⟩ : ∃ b, (decide (0 ≤ r.dev) && decide (r.dev ≤ 7)) = b := ⟨_, rfl⟩
  obtain ⟨b3, h3⟩ : ∃ b, (decide (0 ≤ r.prio) && decide (r.prio ≤ 1024)) = b := ⟨_, rfl⟩
  obtain ⟨b4, h4⟩ : ∃ b, (decide (0 ≤ r.kind) && decide (r.kind ≤ 3)) = b := ⟨_, rfl⟩
  obtain ⟨b5, h5⟩ : ∃ b, (decide (0 ≤ r.port) && decide (r.port ≤ 3)) = b := ⟨_, rfl⟩
  obtain ⟨b6, h6⟩ : ∃ b, decide (r.kind = 0) = b := ⟨_, rfl⟩
  obtain ⟨b7, h7⟩ : ∃ b, decide (r.port = 0) = b := ⟨_, rfl⟩
  obtain ⟨b8, h8⟩ : ∃ b, decide (r.r.lo ≤ r.r.hi) = b := ⟨_, rfl⟩
  have c1 := h1 ▸ zbC r.id 1 1048576
  have c2 := h2 ▸ zbC r.dev 0 7
  have c3 := h3 ▸ zbC r.prio 0 1024
  have c4 := h4 ▸ zbC r.kind 0 3
  have c5 := h5 ▸ zbC r.port 0 3
  have e : zay r = (b1 && b2 && b3 && b4 && b5 && (b6 || b7) && b8) := by unfold zay; rw [h1, h2, h3, h4, h5, h6, h7, h8]
  rw [e]
  clear e
  refine zD Tryz.func34 rfl (N := 49) rfl rfl (by simp) (by simp [noIds]) fun σ => ?_
  have FF := fI zc.eq_1 (fI @h6 (fI @h7 @h8)); refine goB ?_; clear FF
  repeat' (first | refine PCalls.use c1 ?_ | refine PCalls.use c2 ?_ | refine PCalls.use c3 ?_ | refine PCalls.use c4 ?_ | refine PCalls.use c5 ?_); all_goals (try ((first | with_reducible refine zy ?_ | with_reducible refine zG ?_ | with_reducible refine zH ?_); simp [zc, h6, h7, h8])); repeat' (first | ((first | refine zt ?_ | refine zw ?_ | refine dN (by decide +kernel) ?_ | (refine zh ?_ ?_ <;> (intro hg; simp only [hg])) | fail) <;> simp [zc, h6, h7, h8]) | refine zv ?_ | refine zr ?_ | (refine zO ?_; simp only [zP]; try simp) | ((first | refine zI (by simp) ?_ | refine zF (by simp) (by simp) (by simp (maxDischargeDepth := 30) [zc, h6, h7, h8]) ?_ | fail); simp) | (refine zm (fun hc => ?_) (fun hc => ?_) <;> try simp at hc) | fail)
theorem zaJ (r : Ru) (hr : -9223372036854775808 ≤ r.id) (hr2 : r.id < 9223372036854775808) : PCalls Tryz.prog 5 [zc r] (.raw (.bool (zay r))) := by
  obtain ⟨b1, h1⟩ : ∃ b, (decide (0 ≤ r.id - 1) && decide (r.id - 1 ≤ 1048575)) = b := ⟨_, rfl⟩
  obtain ⟨b2, h2⟩ : ∃ b, (decide (0 ≤ r.dev) && decide (r.dev ≤ 7)) = b := ⟨_, rfl⟩
  obtain ⟨b3, h3⟩ : ∃ b, (decide (0 ≤ r.prio) && decide (r.prio ≤ 1024)) = b := ⟨_, rfl⟩
  obtain ⟨b4, h4⟩ : ∃ b, (decide (0 ≤ r.kind) && decide (r.kind ≤ 3)) = b := ⟨_, rfl⟩
  obtain ⟨b5, h5⟩ : ∃ b, (decide (0 ≤ r.port) && decide (r.port ≤ 3)) = b := ⟨_, rfl⟩
  obtain ⟨b6, h6⟩ : ∃ b, decide (r.kind = 0) = b := ⟨_, rfl⟩
  obtain ⟨b7, h7⟩ : ∃ b, decide (r.port = 0) = b := ⟨_, rfl⟩
  obtain ⟨b8, h8⟩ : ∃ b, decide (r.r.lo ≤ r.r.hi) = b := ⟨_, rfl⟩
  obtain ⟨X, w⟩ : ∃ X, IntKind.i64.wrap (r.id - 1) = X := ⟨_, rfl⟩
  have hX : (decide (0 ≤ X) && decide (X ≤ 1048575)) = b1 := by
    by_cases q : r.id = -9223372036854775808
    · have e : X = 9223372036854775807 := by rw [← w, q]; decide
      rw [← h1, e, q]; decide
    · rw [← w, zA (by omega) (by omega)]; exact h1
  have c1 := hX ▸ zbr X 1048575
  have c2 := h2 ▸ zbr r.dev 7
  have c3 := h3 ▸ zbr r.prio 1024
  have c4 := h4 ▸ zbr r.kind 3
  have c5 := h5 ▸ zbr r.port 3
  have e : zay r = (b1 && b2 && b3 && b4 && b5 && (b6 || b7) && b8) := by
    unfold zay; rw [← h1, h2, h3, h4, h5, h6, h7, h8]
    rw [show decide (0 ≤ r.id - 1) = decide (1 ≤ r.id) by (congr 1; exact propext (by omega)), show decide (r.id - 1 ≤ 1048575) = decide (r.id ≤ 1048576) by (congr 1; exact propext (by omega))]
  rw [e]
  clear e
  refine zD Tryz.func5 rfl (N := 52) rfl rfl (by simp) (by simp [noIds]) fun σ => ?_
  have FF := fI zc.eq_1 (fI @h6 (fI @h7 (fI @h8 @w))); refine goB ?_; clear FF
  repeat' (first | refine PCalls.use c1 ?_ | refine PCalls.use c2 ?_ | refine PCalls.use c3 ?_ | refine PCalls.use c4 ?_ | refine PCalls.use c5 ?_); all_goals (try ((first | with_reducible refine zy ?_ | with_reducible refine zG ?_ | with_reducible refine zH ?_); simp [zc, h6, h7, h8, w])); repeat' (first | ((first | refine zt ?_ | refine zw ?_ | refine dN (by decide +kernel) ?_ | (refine zh ?_ ?_ <;> (intro hg; simp only [hg])) | fail) <;> simp [zc, h6, h7, h8, w]) | refine zv ?_ | refine zr ?_ | (refine zO ?_; simp only [zP]; try simp) | ((first | refine zI (by simp) ?_ | refine zF (by simp) (by simp) (by simp (maxDischargeDepth := 30) [zc, h6, h7, h8, w]) ?_ | fail); simp) | (refine zm (fun hc => ?_) (fun hc => ?_) <;> try simp at hc) | fail)
def zcL (x y : Ru) : Int := if cmpI y.prio x.prio = 0 then cmpI x.id y.id else cmpI y.prio x.prio
theorem zkT (x y : Ru) : PCalls Tryz.prog 68 [zc x, zc y] (.raw (.int .i64 (zcL x y))) := by
  refine zD Tryz.func68 rfl (N := 17) rfl rfl (by simp) (by simp [noIds]) fun σ => ?_
  have FF := zc.eq_1; refine goB ?_; clear FF
  refine zfT (fun o => o.dst == some 9 || o.dst == some 14 || o.dst == some 16) mixed (by decide +kernel) ?_
  have FF := zc.eq_1; refine goB ?_; clear FF
  refine .inl ⟨_, .inl (zdp _ _), ?_⟩
  have FF := zc.eq_1; refine goB ?_; clear FF
  refine .inl ⟨_, .inl (zdp _ _), ?_⟩
  have FF := zc.eq_1; refine goB ?_; clear FF
  refine .inl ⟨_, .inr ⟨[zaI [cmpI y.prio x.prio, cmpI x.id y.id] false], ?_, znr _ _ _, rfl⟩, ?_⟩
  · exact ⟨_, _, rfl, .inr ⟨[.raw (.int .i64 (cmpI y.prio x.prio)), .raw (.int .i64 (cmpI x.id y.id))], by simp [St.new], by simp, by simp [zaI, iAV]⟩, rfl⟩
  unfold zcL
  simp
  refine zla ?_
  refine zF (.inr rfl) rfl (by simp (maxDischargeDepth := 30)) ?_
  simp
end Go.Proofs.YtckabcbfbpejkaaGreatDoor.Av
namespace Go.Proofs.YtckabcbfbpejkaaGreatDoor.Av
open Go
set_option linter.unusedSimpArgs false
set_option linter.unusedVariables false
set_option maxRecDepth 100000
set_option maxHeartbeats 1000000
set_option pp.maxSteps 300
def idxOf {T : Type} (p : T → Bool) (z : List T) : Int := if z.any p then (z.findIdx p : Nat) else -1
theorem zhO {T : Type} {p : T → Bool} {z : List T} {i : Nat} {x : T} (hx : z[i]? = some x) (hp : p x = true) (hn : ∀ j, j < i → ∀ y, z[j]? = some y → p y = false) : idxOf p z = i := by
  unfold idxOf
  obtain ⟨hi, he⟩ := List.getElem?_eq_some_iff.1 hx
  rw [if_pos (List.any_eq_true.2 ⟨x, List.mem_of_getElem? hx, hp⟩)]
  congr 1
  rw [List.findIdx_eq hi]
  refine ⟨by rw [he]; exact hp, fun j hj => ?_⟩
  exact hn j hj _ (List.getElem?_eq_getElem (by omega))
theorem zhP {T : Type} {p : T → Bool} {z : List T} (hn : ∀ j, j < z.length → ∀ y, z[j]? = some y → p y = false) : idxOf p z = -1 ∧ z.any p = false := by
  have : z.any p = false := by
    rw [List.any_eq_false]
    intro x hx
    obtain ⟨j, hj⟩ := List.getElem?_of_mem hx
    simp [hn j (List.getElem?_eq_some_iff.1 hj).1 x hj]
  exact ⟨by unfold idxOf; rw [this]; rfl, this⟩
theorem zg (r : Ru) : (zc r).cells = [.raw (.int .i64 r.id), .raw (.int .i64 r.dev), .raw (.int .i64 r.prio), .raw (.int .i64 r.kind), .raw (.int .u32 r.r.lo), .raw (.int .u32 r.r.hi), .raw (.int .i64 r.port)] := rfl
theorem zje {g : FuncId} {caps : List AV} {p : Ru → Bool} (z : List Ru) (fz : Bool) (hl : z.length < 2 ^ 60) (hg : ∀ r ∈ z, PCalls Tryz.prog g (zc r :: caps) (.raw (.bool (p r)))) :
    PCalls Tryz.prog 83 [za z fz, .fn (.func g) [] caps] (.raw (.int .i64 (idxOf p z))) := by
  refine zD Tryz.func83 rfl (N := 19) rfl rfl (by simp) (by simp [noIds]) fun σ => ?_
  have FF := za.eq_1; refine goB ?_; clear FF
  refine z1 (fun n A τ => τ = σ ∧ A 0 = za z fz ∧ A 1 = .fn (.func g) [] caps ∧ A 7 = .raw (.int .i64 z.length) ∧ ∃ i : Nat, A 8 = .raw (.int .i64 i) ∧ i ≤ z.length ∧ n = z.length - i ∧ ∀ j, j < i → ∀ y, z[j]? = some y → p y = false) z.length ?_ ?_
  · exact ⟨rfl, by simp [za], by simp, by simp, 0, by simp, by omega, by omega, fun j h => by omega⟩
  rintro n A τ ⟨rfl, a0, a1, a7, i, a8, hi, rfl, hn⟩ I1 hI1
  by_cases hlt : i < z.length
  · have hx : z[i]? = some z[i] := List.getElem?_eq_getElem hlt
    have w1 : IntKind.i64.wrap ((i : Int) + 1) = ((i + 1 : Nat) : Int) := by rw [zA (by omega) (by omega)]; omega
    have hr : AV.agg [.raw (.int .i64 z[i].id), .raw (.int .i64 z[i].dev), .raw (.int .i64 z[i].prio), .raw (.int .i64 z[i].kind), .raw (.int .u32 z[i].r.lo), .raw (.int .u32 z[i].r.hi), .raw (.int .i64 z[i].port)] = zc z[i] := rfl
    (try ((first | with_reducible refine zy ?_ | with_reducible refine zG ?_ | with_reducible refine zH ?_); simp [za, a0, a1, a7, a8, hlt, hx, zg, hr])); repeat' (first | ((first | refine zt ?_ | refine zw ?_ | refine dN (by decide +kernel) ?_ | (refine zh ?_ ?_ <;> (intro hg; simp only [hg])) | fail) <;> simp [za, a0, a1, a7, a8, hlt, hx, zg, hr]) | refine zv ?_ | refine zr ?_ | (refine zO ?_; simp only [zP]; try simp) | ((first | refine zI (by simp) ?_ | refine zF (by simp) (by simp) (by simp (maxDischargeDepth := 30) [za, a0, a1, a7, a8, hlt, hx, zg, hr]) ?_ | fail); simp) | (refine zm (fun hc => ?_) (fun hc => ?_) <;> try simp at hc) | fail)
    refine PCalls.use (hg z[i] (List.getElem_mem _)) ?_
    cases hp : p z[i] with
    | true =>
      have FF := fI za.eq_1 (fI @a0 (fI @a1 (fI @a7 (fI @a8 (fI @hlt (fI @hx (fI @zg @hr))))))); refine goB ?_; clear FF
      exact (zhO hx hp hn).symm
    | false =>
      have FF := fI za.eq_1 (fI @a0 (fI @a1 (fI @a7 (fI @a8 (fI @hlt (fI @hx (fI @zg @hr))))))); refine goB ?_; clear FF
      refine hI1 (z.length - (i + 1)) _ _ (by omega) ⟨rfl, by simp [a0], by simp [a1], by simp [a7], i + 1, by simp [w1], by omega, rfl, fun j hj y hy => ?_⟩
      by_cases e : j = i
      · subst e; rw [hx] at hy; injection hy with hy; subst hy; exact hp
      · exact hn j (by omega) y hy
  · have hi' : i = z.length := by omega
    subst hi'
    have w1 : IntKind.i64.wrap (-1) = -1 := zA (by omega) (by omega)
    have FF := fI za.eq_1 (fI @a0 (fI @a1 (fI @a7 (fI @a8 @w1)))); refine goB ?_; clear FF
    exact (zhP hn).1.symm
end Go.Proofs.YtckabcbfbpejkaaGreatDoor.Av
namespace Go.Proofs.YtckabcbfbpejkaaGreatDoor.Av
open Go
set_option linter.unusedSimpArgs false
set_option linter.unusedVariables false
set_option maxRecDepth 100000
set_option maxHeartbeats 2000000
set_option pp.maxSteps 300
theorem zlP {P : Program} {f : FuncId} {sz : Nat} {fl : Bool} {σ : St} {K : AV → St → Prop} (h : ∀ b cap, ACalls P f [.raw (.slice b 0 cap)] σ K) : ACalls P f [.sl sz [] fl] σ K := by
  refine ⟨(h none 0).1, fun S vs hS hl => ?_⟩
  simp only [LRel, VRel] at hl
  obtain ⟨v, us, rfl, ⟨base, cap, rfl, _⟩, rfl⟩ := hl
  exact (h base cap).2 S _ hS ⟨_, _, rfl, rfl, rfl⟩
theorem znT : ∀ z : List Ru, zN (zs (z.map zc)) = true := fun z => by
  induction z with
  | nil => rfl
  | cons r z ih => simp [zs, zc, zN, cellOK] at ih ⊢; try exact ih
theorem zjf (l : List Ru) (f : Bool) {σ : St} {K : AV → St → Prop} (hl : l.length < 2932031007403) (h : ∀ v τ, OwnL σ τ 7 v (l.map zc) → Ext σ τ → K v τ) : ACalls Tryz.prog 65 [za l f] σ K := by
  cases l with
  | nil =>
    simp only [za, List.map_nil]
    refine zlP fun b cap => ?_
    refine zlJ Tryz.func65 rfl (N := 8) rfl rfl (by simp) ?_
    cases b with
    | none =>
      refine znq ?_
      exact zeI (.inr rfl) (by simp) (h _ _ OwnL.nil (Ext.refl _))
    | some b =>
      (try ((first | with_reducible refine zy ?_ | with_reducible refine zG ?_ | with_reducible refine zH ?_); simp [-zM])); repeat' (first | ((first | refine zt ?_ | refine zw ?_ | refine dN (by decide +kernel) ?_ | (refine zh ?_ ?_ <;> (intro hg; simp only [hg])) | fail) <;> simp [-zM]) | refine zv ?_ | refine zr ?_ | (refine zO ?_; simp only [zP]; try simp) | (refine zm (fun hc => ?_) (fun hc => ?_) <;> try simp at hc) | fail)
      refine zbM zlN (σ0 := σ) (es := []) (OwnL.of rfl (by simp) (zu _ _ _) rfl) (Ext.new _ _ _ _) (ys := []) (by simp) (.inl rfl) rfl (by simp) ?_
      intro v1 τ1 hO1 hE1 _ _
      rw [List.nil_append] at hO1
      (try ((first | with_reducible refine zy ?_ | with_reducible refine zG ?_ | with_reducible refine zH ?_); simp [-zM])); repeat' (first | ((first | refine zt ?_ | refine zw ?_ | refine dN (by decide +kernel) ?_ | (refine zh ?_ ?_ <;> (intro hg; simp only [hg])) | fail) <;> simp [-zM]) | refine zv ?_ | refine zr ?_ | (refine zO ?_; simp only [zP]; try simp) | (refine zm (fun hc => ?_) (fun hc => ?_) <;> try simp at hc) | fail)
      exact zeI (.inr rfl) (by simp) (h _ _ hO1 hE1)
  | cons r l =>
    refine zlJ Tryz.func65 rfl (N := 8) rfl rfl (by simp) ?_
    (try ((first | with_reducible refine zy ?_ | with_reducible refine zG ?_ | with_reducible refine zH ?_); simp [za, -zM])); repeat' (first | ((first | refine zt ?_ | refine zw ?_ | refine dN (by decide +kernel) ?_ | (refine zh ?_ ?_ <;> (intro hg; simp only [hg])) | fail) <;> simp [za, -zM]) | refine zv ?_ | refine zr ?_ | (refine zO ?_; simp only [zP]; try simp) | (refine zm (fun hc => ?_) (fun hc => ?_) <;> try simp at hc) | fail)
    refine zbM zlN (σ0 := σ) (es := []) (OwnL.of rfl (by simp) (zu _ _ _) rfl) (Ext.new _ _ _ _) (ys := (r :: l).map zc) (by simp) (.inr rfl) (znT _) (by simp at hl ⊢; omega) ?_
    intro v1 τ1 hO1 hE1 _ _
    rw [List.nil_append] at hO1
    (try ((first | with_reducible refine zy ?_ | with_reducible refine zG ?_ | with_reducible refine zH ?_); simp [-zM])); repeat' (first | ((first | refine zt ?_ | refine zw ?_ | refine dN (by decide +kernel) ?_ | (refine zh ?_ ?_ <;> (intro hg; simp only [hg])) | fail) <;> simp [-zM]) | refine zv ?_ | refine zr ?_ | (refine zO ?_; simp only [zP]; try simp) | (refine zm (fun hc => ?_) (fun hc => ?_) <;> try simp at hc) | fail)
    exact zeI (.inr rfl) (by simp) (h _ _ hO1 hE1)
def zau : List Ru → Ru
  | [] => ⟨0, 0, 0, 0, ⟨0, 0⟩, 0⟩
  | r :: l => l.foldl (fun m x => if zcL x m < 0 then x else m) r
theorem ziP {z : List Ru} {k : Nat} {x : Ru} (h1 : 1 ≤ k) (hx : z[k]? = some x) : zau (z.take (k + 1)) = if zcL x (zau (z.take k)) < 0 then x else zau (z.take k) := by
  rw [List.take_add_one, hx]
  cases z with
  | nil => simp at hx
  | cons r l =>
    obtain ⟨j, rfl⟩ : ∃ j, k = j + 1 := ⟨k - 1, by omega⟩
    simp [zau, List.foldl_append]
    rfl
theorem zp (x : Ru) : AV.agg [.raw (.int .i64 x.id), .raw (.int .i64 x.dev), .raw (.int .i64 x.prio), .raw (.int .i64 x.kind), .raw (.int .u32 x.r.lo), .raw (.int .u32 x.r.hi), .raw (.int .i64 x.port)] = zc x := rfl
theorem zbD (a b : Ru) : setPart (zc a) 0 [.raw (.int .i64 b.id), .raw (.int .i64 b.dev), .raw (.int .i64 b.prio), .raw (.int .i64 b.kind), .raw (.int .u32 b.r.lo), .raw (.int .u32 b.r.hi), .raw (.int .i64 b.port)] = zc b := rfl
theorem zaD (a : Ru) : zN (zc a).cells = true := rfl
theorem zjg (z : List Ru) (hne : z ≠ []) (f : Bool) (hl : z.length < 2932031007403) : PCalls Tryz.prog 67 [za z f, .fn (.func 68) [] []] (zc (zau z)) := by
  refine zD Tryz.func67 rfl (N := 33) rfl rfl (by simp) (by simp [noIds, zc]) fun σ => ?_
  have hpos : 0 < z.length := List.length_pos_iff.2 hne
  have hx0 : z[0]? = some z[0] := List.getElem?_eq_getElem hpos
  have hlt1 : ¬ ((z.length : Int) < 1) := by omega
  (try ((first | with_reducible refine zy ?_ | with_reducible refine zG ?_ | with_reducible refine zH ?_); simp [za, zg, hx0, hlt1, hpos])); repeat' (first | ((first | refine zt ?_ | refine zw ?_ | refine dN (by decide +kernel) ?_ | (refine zh ?_ ?_ <;> (intro hg; simp only [hg])) | fail) <;> simp [za, zg, hx0, hlt1, hpos]) | refine zv ?_ | refine zr ?_ | (refine zO ?_; simp only [zP]; try simp) | ((first | refine zI (by simp) ?_ | refine zF (by simp) (by simp) (by simp (maxDischargeDepth := 30) [za, zg, hx0, hlt1, hpos]) ?_ | fail); simp) | (refine zm (fun hc => ?_) (fun hc => ?_) <;> try simp at hc) | fail)
  refine z1 (fun n A τ => A 0 = za z f ∧ A 1 = .fn (.func 68) [] [] ∧ A 4 = .rp ⟨4, σ.nx 4, 7⟩ 0 0 ∧ A 5 = .rp ⟨5, σ.nx 5, 7⟩ 0 0 ∧ (∃ y, τ.m ⟨4, σ.nx 4, 7⟩ = some (.buf [zc y])) ∧ Ext σ τ ∧
    ∃ (k : Nat), A 6 = .raw (.int .i64 k) ∧ 1 ≤ k ∧ k ≤ z.length ∧ τ.m ⟨5, σ.nx 5, 7⟩ = some (.buf [zc (zau (z.take k))]) ∧ n = z.length - k) (z.length - 1) ?_ ?_
  · refine ⟨by simp [za], by simp, by simp, by simp [St.new], ⟨⟨0, 0, 0, 0, ⟨0, 0⟩, 0⟩, ?_⟩, ?_, 1, by simp, by omega, by omega, ?_, ?_⟩
    · simp [St.new, St.set, zc]
    · refine Ext.setF (by simp (maxDischargeDepth := 30)) ?_
      have := zu σ 5 7
      simpa [St.new] using this
    · have e : z.take 1 = [z[0]] := by
        cases z with
        | nil => exact absurd rfl hne
        | cons r l => rfl
      rw [e]
      simp [St.new, St.set, zau, zc]
    · rfl
  rintro n A τ ⟨a0, a1, a4, a5, ⟨y, m4⟩, hE, k, a6, h1, hk, m5, rfl⟩ I1 hI1
  have f4 : σ.m ⟨4, σ.nx 4, 7⟩ = none := zu _ _ _
  have f5 : σ.m ⟨5, σ.nx 5, 7⟩ = none := zu _ _ _
  by_cases hlt : k < z.length
  · have hx : z[k]? = some z[k] := List.getElem?_eq_getElem hlt
    have w1 : IntKind.i64.wrap ((k : Int) + 1) = ((k + 1 : Nat) : Int) := by rw [zA (by omega) (by omega)]; omega
    (try ((first | with_reducible refine zy ?_ | with_reducible refine zG ?_ | with_reducible refine zH ?_); simp [za, a0, a1, a4, a5, a6, hlt, hx, m4, m5, zg, zp])); repeat' (first | ((first | refine zt ?_ | refine zw ?_ | refine dN (by decide +kernel) ?_ | (refine zh ?_ ?_ <;> (intro hg; simp only [hg])) | fail) <;> simp [za, a0, a1, a4, a5, a6, hlt, hx, m4, m5, zg, zp]) | refine zv ?_ | refine zr ?_ | (refine zO ?_; simp only [zP]; try simp) | ((first | refine zI (by simp) ?_ | refine zF (by simp) (by simp) (by simp (maxDischargeDepth := 30) [za, a0, a1, a4, a5, a6, hlt, hx, m4, m5, zg, zp]) ?_ | fail); simp) | (refine zm (fun hc => ?_) (fun hc => ?_) <;> try simp at hc) | fail)
    refine PCalls.use (zkT _ _) ?_
    by_cases hs : zcL z[k] (zau (z.take k)) < 0
    · (try ((first | with_reducible refine zy ?_ | with_reducible refine zG ?_ | with_reducible refine zH ?_); simp [za, a0, a1, a4, a5, a6, hlt, hx, m4, m5, zg, zp, zbD, hs, w1])); repeat' (first | ((first | refine zt ?_ | refine zw ?_ | refine dN (by decide +kernel) ?_ | (refine zh ?_ ?_ <;> (intro hg; simp only [hg])) | fail) <;> simp [za, a0, a1, a4, a5, a6, hlt, hx, m4, m5, zg, zp, zbD, hs, w1]) | refine zv ?_ | refine zr ?_ | (refine zO ?_; simp only [zP]; try simp) | ((first | refine zI (by simp) ?_ | refine zF (by simp) (by simp) (by simp (maxDischargeDepth := 30) [za, a0, a1, a4, a5, a6, hlt, hx, m4, m5, zg, zp, zbD, hs, w1]) ?_ | fail); simp) | (refine zm (fun hc => ?_) (fun hc => ?_) <;> try simp at hc) | fail)
      exact hI1 (z.length - (k + 1)) _ _ (by omega) ⟨by simp [a0], by simp [a1], by simp [a4], by simp [a5], ⟨y, by rw [zoX (by simp)]; exact m4⟩, hE.setF f5, k + 1, by simp, by omega, by omega, by rw [zld m5, ziP h1 hx, if_pos hs], rfl⟩
    · have FF := fI za.eq_1 (fI @a0 (fI @a1 (fI @a4 (fI @a5 (fI @a6 (fI @hlt (fI @hx (fI @m4 (fI @m5 (fI @zg (fI @zp (fI @zbD (fI @hs @w1))))))))))))); refine goB ?_; clear FF
      exact hI1 (z.length - (k + 1)) _ _ (by omega) ⟨by simp [a0], by simp [a1], by simp [a4], by simp [a5], ⟨y, m4⟩, hE, k + 1, by simp, by omega, by omega, by rw [m5, ziP h1 hx, if_neg hs], rfl⟩
  · have : k = z.length := by omega
    subst this
    rw [List.take_length] at m5
    have FF := fI za.eq_1 (fI @a0 (fI @a1 (fI @a4 (fI @a5 (fI @a6 (fI @m4 (fI @m5 (fI @zg (fI @zp @zbD))))))))); refine goC ?_; clear FF
    refine zF (.inr rfl) rfl (hE.setF f4) ?_
    simp [a4, m4, St.set, zg]
    exact zp _
theorem ACalls.args {P : Program} {f : FuncId} {as_ bs : List AV} {σ : St} {K : AV → St → Prop} (hw : ∀ S vs, LRel S as_ vs → LRel S bs vs) (h : ACalls P f bs σ K) : ACalls P f as_ σ K :=
  ⟨h.1, fun S vs hS hl => h.2 S vs hS (hw S vs hl)⟩
def OwnP (σ0 τ : St) (n : Nat) (v : AV) (es : List AV) : Prop :=
  (es = [] ∧ v = .sl 0 [] true) ∨ ∃ j rest, v = .rs j 0 es.length ∧ j.sz = n ∧ τ.m j = some (.buf (es ++ rest)) ∧ σ0.m j = none
theorem OwnL.toP {σ0 τ : St} {n : Nat} {v : AV} {es : List AV} (h : OwnL σ0 τ n v es) : OwnP σ0 τ n v es := by
  rcases h with h | ⟨j, h1, h2, h3, h4⟩
  · exact .inl h
  · exact .inr ⟨j, [], h1, h2, by rw [List.append_nil]; exact h3, h4⟩
theorem OwnP.ext {σ0 τ ρ : St} {n : Nat} {v : AV} {es : List AV} (h : OwnP σ0 τ n v es) (k : Ext τ ρ) : OwnP σ0 ρ n v es := by
  rcases h with h | ⟨j, r, h1, h2, h3, h4⟩
  · exact .inl h
  · exact .inr ⟨j, r, h1, h2, k.m _ _ h3, h4⟩
theorem PCalls.useP {P : Program} {f : FuncId} {σ0 σ : St} {n : Nat} {a v r : AV} {es : List AV} {K : AV → St → Prop} (h : PCalls P f [.sl n es false, a] r) (hr : r.plain = true) (hO : OwnP σ0 σ n v es) (k : K r σ) : ACalls P f [v, a] σ K := by
  rcases hO with ⟨rfl, rfl⟩ | ⟨j, rest, rfl, hj, hm, hn⟩
  · refine ACalls.args (bs := [.sl n [] false, a]) (fun S vs hl => ?_) (h.use k)
    simp only [LRel] at hl ⊢
    obtain ⟨w, ws, e2, h2, v, us, e, h1, h3⟩ := hl
    exact ⟨w, ws, e2, zcx _ _ h2, v, us, e, h1, h3⟩
  · refine RCalls.use (.inr ⟨[.sl n es false, a], ?_, h, hr⟩) k
    simp only [zce]
    exact ⟨_, _, rfl, .inr ⟨es ++ rest, hm, by simp, by simp [hj]⟩, _, _, rfl, .inl rfl, rfl⟩
theorem zj3 {g : FuncId} {caps : List AV} {p : Ru → Bool} (l : List Ru) {σ0 σ : St} {v : AV} {K : AV → St → Prop} (hO : OwnL σ0 σ 7 v (l.map zc)) (hE : Ext σ0 σ) (hl : l.length < 2932031007403)
    (hg : ∀ r ∈ l, PCalls Tryz.prog g (zc r :: caps) (.raw (.bool (p r)))) (h : ∀ v' τ, OwnP σ0 τ 7 v' ((l.filter fun r => !p r).map zc) → Ext σ0 τ → K v' τ) : ACalls Tryz.prog 64 [v, .fn (.func g) [] caps] σ K := by
  refine zlJ Tryz.func64 rfl (N := 42) rfl rfl (by simp) ?_
  refine zj2 ?_
  refine PCalls.useP (zje l false (by omega) hg) rfl hO.toP ?_
  cases ha : l.any p with
  | false =>
    have hi : idxOf p l = -1 := by unfold idxOf; rw [ha]; rfl
    have hfl : (l.filter fun r => !p r) = l := by
      rw [List.filter_eq_self]
      intro r hr
      rw [List.any_eq_false] at ha
      simpa using ha r hr
    have w1 : IntKind.i64.wrap (-1) = -1 := zA (by omega) (by omega)
    rw [hfl] at h
    have FF := fI @hi @w1; refine goC ?_; clear FF
    exact zeI (.inr rfl) (by simp) (h _ _ hO.toP hE)
  | true =>
    have hi : idxOf p l = (l.findIdx p : Nat) := by unfold idxOf; rw [ha]; rfl
    have hlt0 : l.findIdx p < l.length := List.findIdx_lt_length.2 (by simpa using ha)
    obtain ⟨i0, hi0⟩ : ∃ i0, l.findIdx p = i0 := ⟨_, rfl⟩
    rw [hi0] at hi hlt0
    have hne : ¬ ((i0 : Int) = -1) := by omega
    have w0 : IntKind.i64.wrap ((i0 : Int) + 1) = ((i0 + 1 : Nat) : Int) := by rw [zA (by omega) (by omega)]; omega
    have w1 : IntKind.i64.wrap (-1) = -1 := zA (by omega) (by omega)
    rcases hO with ⟨he, _⟩ | ⟨j, hv, hj, hm, hn⟩
    · have : l = [] := by simpa using he
      subst this
      simp at ha
    rw [List.length_map] at hv
    subst hv
    have FF := fI @hi (fI @w1 (fI @hne @w0)); refine goB ?_; clear FF
    have hfirst : ∀ r ∈ l.take i0, p r = false := fun r hr => by
      obtain ⟨q, hq⟩ := List.getElem?_of_mem hr
      obtain ⟨hq1, hq2⟩ := List.getElem?_eq_some_iff.1 hq
      rw [List.length_take] at hq1
      rw [List.getElem_take] at hq2
      have := List.not_of_lt_findIdx (p := p) (xs := l) (i := q) (by omega)
      rw [hq2] at this
      simpa using this
    have hp0 : p l[i0] = true := by
      have := List.findIdx_getElem (p := p) (xs := l) (w := by omega)
      simpa only [hi0] using this
    have htk : ∀ k, (hk : k < l.length) → (l.take (k + 1)).filter (fun r => !p r) = (l.take k).filter (fun r => !p r) ++ if p l[k] = true then [] else [l[k]] := fun k hk => by
      rw [List.take_add_one, List.getElem?_eq_getElem hk, List.filter_append]
      congr 1
      cases hb : p l[k] <;> simp [hb]
    refine z1 (fun n A τ => A 0 = .rs j 0 l.length ∧ A 1 = .fn (.func g) [] caps ∧ Ext σ0 τ ∧ ∃ (k : Nat) (q : List Ru), A 6 = .raw (.int .i64 k) ∧ A 5 = .raw (.int .i64 (((l.take k).filter fun r => !p r).length : Nat)) ∧ k ≤ l.length ∧
      ((l.take k).filter fun r => !p r).length < k ∧ q.length = l.length ∧ q.take ((l.take k).filter fun r => !p r).length = (l.take k).filter (fun r => !p r) ∧ q.drop k = l.drop k ∧ τ.m j = some (.buf (q.map zc)) ∧ n = l.length - k) (l.length - (i0 + 1)) ?_ ?_
    · have e1 : (l.take (i0 + 1)).filter (fun r => !p r) = l.take i0 := by
        rw [htk i0 hlt0, if_pos hp0, List.append_nil, List.filter_eq_self]
        intro r hr; simp [hfirst r hr]
      refine ⟨by simp, by simp, hE, i0 + 1, l, by simp, ?_, by omega, ?_, rfl, ?_, rfl, hm, rfl⟩
      · rw [e1, List.length_take, Nat.min_eq_left (by omega)]; simp
      · rw [e1, List.length_take, Nat.min_eq_left (by omega)]; omega
      · rw [e1, List.length_take, Nat.min_eq_left (by omega)]
    rintro n A τ ⟨a0, a1, hE, k, q, a6, a5, hk, hik, hq, hq1, hq2, hmq, rfl⟩ I1 hI1
    obtain ⟨i, hii⟩ : ∃ i, ((l.take k).filter fun r => !p r).length = i := ⟨_, rfl⟩
    rw [hii] at a5 hik hq1
    by_cases hlt : k < l.length
    · have hx : q[k]? = some l[k] := by
        have := congrArg (·[0]?) hq2
        simpa [List.getElem?_drop, List.getElem?_eq_getElem hlt] using this
      have hxi : q[i]? = some q[i] := List.getElem?_eq_getElem (by omega)
      have w2 : IntKind.i64.wrap ((k : Int) + 1) = ((k + 1 : Nat) : Int) := by rw [zA (by omega) (by omega)]; omega
      have w3 : IntKind.i64.wrap ((i : Int) + 1) = ((i + 1 : Nat) : Int) := by rw [zA (by omega) (by omega)]; omega
      have hjf : j ≠ ⟨7, τ.nx 7, 7⟩ := fun e => by rw [e, zu] at hmq; cases hmq
      have hil : i < l.length := by omega
      have FF := fI @a0 (fI @a1 (fI @a6 (fI @a5 (fI @hlt (fI @hx (fI @hmq (fI @hj (fI @hjf (fI @zg (fI @zp (fI @w2 @w3))))))))))); refine goB ?_; clear FF
      refine PCalls.use (hg l[k] (List.getElem_mem _)) ?_
      cases hpk : p l[k] with
      | true =>
        have FF := fI @a0 (fI @a1 (fI @a6 (fI @a5 (fI @hlt (fI @hx (fI @hmq (fI @hj (fI @hjf (fI @zg (fI @zp (fI @w2 @w3))))))))))); refine goB ?_; clear FF
        have e := htk k hlt
        rw [if_pos hpk, List.append_nil] at e
        refine hI1 (l.length - (k + 1)) _ _ (by omega) ⟨by simp [a0], by simp [a1], by simp [hE], k + 1, q, by simp, by rw [e, hii]; simp [a5], by omega, by rw [e, hii]; omega, hq, by rw [e, hii]; exact hq1, ?_, by simp [St.set, St.new, hjf, hmq], rfl⟩
        have := congrArg (List.drop 1) hq2
        simpa [List.drop_drop, Nat.add_comm] using this
      | false =>
        have hsp : setPart (zc q[i]) 0 (zc l[k]).cells = zc l[k] := rfl
        rw [zg] at hsp
        have FF := fI @a0 (fI @a1 (fI @a6 (fI @a5 (fI @hlt (fI @hil (fI @hx (fI @hxi (fI @hmq (fI @hj (fI @hjf (fI @zg (fI @zp (fI @hsp (fI @w2 @w3)))))))))))))); refine goB ?_; clear FF
        have e := htk k hlt
        rw [if_neg (by simp [hpk])] at e
        have el : (((l.take k).filter fun r => !p r) ++ [l[k]]).length = i + 1 := by rw [List.length_append, hii]; rfl
        refine hI1 (l.length - (k + 1)) _ _ (by omega) ⟨by simp [a0], by simp [a1], Ext.setF (by simp [hE]) hn, k + 1, q.set i l[k], by simp, by rw [e, el]; simp, by omega, by rw [e, el]; omega, by simpa using hq, ?_, ?_, by simp [St.set, St.new, hjf, hmq, List.map_set], rfl⟩
        · rw [e, el, ← hq1, List.take_succ_eq_append_getElem (by simp; omega)]
          simp
          rw [List.take_set, List.set_eq_of_length_le (by simp; omega)]
        · have := congrArg (List.drop 1) hq2
          rw [List.drop_set_of_lt (by omega)]
          simpa [List.drop_drop, Nat.add_comm] using this
    · have : k = l.length := by omega
      subst this
      rw [List.take_length] at *
      have hil : i ≤ l.length := by omega
      obtain ⟨m, hm'⟩ : ∃ m, l.length - i = m + 1 := ⟨l.length - i - 1, by omega⟩
      have ecut : zec j 0 i l.length = .rs j i (m + 1) := by unfold zec; rw [if_pos (.inr (by omega)), hm', Nat.zero_add]
      obtain ⟨rest, hcl⟩ : ∃ rest, zdK Tryz.prog τ.m 35 (.rs j i (m + 1)) = some (.wrv j ((l.filter fun r => !p r).map zc ++ rest) (.tup [])) := by
        have hle : i + (m + 1) ≤ q.length := by omega
        refine ⟨List.replicate (m + 1) (zc ⟨0, 0, 0, 0, ⟨0, 0⟩, 0⟩) ++ (q.map zc).drop (i + (m + 1)), ?_⟩
        rw [← hq1, List.map_take]
        simp [zdK, hmq, hj, zN, cellOK, hle, zc]
      have FF := fI @a0 (fI @a1 (fI @a6 (fI @a5 (fI @hj (fI @hil (fI @ecut @hcl)))))); refine goC ?_; clear FF
      have ec0 : zec j 0 0 i = .rs j 0 ((l.filter fun r => !p r).map zc).length := by
        unfold zec; rw [if_pos (.inl rfl), List.length_map, hii]; simp
      exact zeI (.inr rfl) (x := zec j 0 0 i) (by simp) (by
        rw [ec0]
        exact h _ _ (.inr ⟨j, rest, rfl, hj, zld hmq, hn⟩) (Ext.setF hE hn))
end Go.Proofs.YtckabcbfbpejkaaGreatDoor.Av
namespace Go.Proofs.YtckabcbfbpejkaaGreatDoor.Av
open Go
set_option linter.unusedSimpArgs false
set_option linter.unusedVariables false
set_option maxRecDepth 100000
set_option maxHeartbeats 2000000
set_option pp.maxSteps 300
theorem zim {g : FuncId} {caps : List AV} {p : Ru → Bool} (r : Ru) (hg : PCalls Tryz.prog g (zc r :: caps) (.raw (.bool (p r)))) : PCalls Tryz.prog 66 [zc r, .pp [.fn (.func g) [] caps] 0] (.raw (.bool (!p r))) := by
  refine zD Tryz.func66 rfl (N := 8) rfl rfl (by simp) (by simp [noIds]) fun σ => ?_
  have FF := fI @zg @zaD; refine goB ?_; clear FF
  rw [zp]
  refine PCalls.use hg ?_
  exact zik
theorem zgE {g : FuncId} {caps : List AV} {p : Ru → Bool} (l : List Ru) (f : Bool) (hl : l.length < 2932031007403) (hg : ∀ r ∈ l, PCalls Tryz.prog g (zc r :: caps) (.raw (.bool (p r)))) :
    PCalls Tryz.prog 41 [za l f, .fn (.func g) [] caps] (.tup [zc (zau (l.filter p)), .raw (.bool (l.any p))]) := by
  refine zD Tryz.func41 rfl (N := 16) rfl rfl (by simp) (by simp [noIds, zc]) fun σ => ?_
  repeat (refine zv ?_)
  refine zw ?_
  simp
  refine zbN ⟨3, σ.nx 3, 1⟩ ?_
  generalize hτ : St.del _ _ = τ
  generalize hA : (fun t => zE _ _ _) = A
  have a0 : A 0 = za l f := by rw [← hA]; simp [za]
  have a3 : A 3 = .pp [.fn (.func g) [] caps] 0 := by rw [← hA, ← hτ]; simp [zE, St.new, St.del]
  have a4 : A 4 = .rp ⟨4, σ.nx 4, 7⟩ 0 0 := by rw [← hA, ← hτ]; simp [zE, St.new, St.del]
  have m4 : τ.m ⟨4, σ.nx 4, 7⟩ = some (.buf [zc ⟨0, 0, 0, 0, ⟨0, 0⟩, 0⟩]) := by rw [← hτ]; simp [St.new, St.del, zc]
  have hE : Ext σ τ := by
    rw [← hτ]
    refine ⟨fun i o h => ?_, fun s => ?_⟩
    · rw [zW (fun e => by rw [e, zu] at h; cases h)]
      exact za6 _ _ (za6 _ _ h)
    · exact Nat.le_trans (St.new_le σ 3 1 (.buf [.fn (.func g) [] caps]) s) (St.new_le (σ.new 3 1 (.buf [.fn (.func g) [] caps])) 4 7 (.buf [zc ⟨0, 0, 0, 0, ⟨0, 0⟩, 0⟩]) s)
  clear hτ hA
  have f4 : σ.m ⟨4, σ.nx 4, 7⟩ = none := zu _ _ _
  have FF := fI @a0 (fI @a3 (fI @a4 @m4)); refine goB ?_; clear FF
  refine zjf l f hl fun v τ1 hO hE1 => ?_
  have FF := fI @a0 (fI @a3 @a4); refine goB ?_; clear FF
  refine zj3 (σ0 := τ) l hO hE1 hl (fun r hr => zim r (hg r hr)) fun v' τ2 hP hE2 => ?_
  have hfl : (l.filter fun r => !(!p r)) = l.filter p := by simp
  rw [hfl] at hP
  have m4' : τ2.m ⟨4, σ.nx 4, 7⟩ = some (.buf [zc ⟨0, 0, 0, 0, ⟨0, 0⟩, 0⟩]) := hE2.m _ _ m4
  have hE3 : Ext σ τ2 := hE.trans hE2
  cases ha : l.any p with
  | false =>
    have hnil : l.filter p = [] := by
      rw [List.filter_eq_nil_iff]
      intro r hr
      rw [List.any_eq_false] at ha
      exact ha r hr
    rw [hnil] at hP ⊢
    have hlen : ∃ z, (v' = .sl 0 [] true ∨ v' = .rs z 0 0) := by
      rcases hP with ⟨_, h⟩ | ⟨z, rest, h, _⟩
      · exact ⟨⟨0, 0, 0⟩, .inl h⟩
      · exact ⟨z, .inr h⟩
    have hz : setPart (zc ⟨0, 0, 0, 0, ⟨0, 0⟩, 0⟩) 0 [.raw (.int .i64 0), .raw (.int .i64 0), .raw (.int .i64 0), .raw (.int .i64 0), .raw (.int .u32 0), .raw (.int .u32 0), .raw (.int .i64 0)] = zc ⟨0, 0, 0, 0, ⟨0, 0⟩, 0⟩ := rfl
    obtain ⟨z, rfl | rfl⟩ := hlen
    · have FF := fI @a0 (fI @a3 (fI @a4 @m4')); refine goC ?_; clear FF
      exact zF (.inr rfl) rfl (hE3.setF f4) (by simp [a4, m4', St.set, zau, hz, zg]; rfl)
    · have FF := fI @a0 (fI @a3 (fI @a4 @m4')); refine goC ?_; clear FF
      exact zF (.inr rfl) rfl (hE3.setF f4) (by simp [a4, m4', St.set, zau, hz, zg]; rfl)
  | true =>
    have hne : l.filter p ≠ [] := by
      intro e
      rw [List.filter_eq_nil_iff] at e
      obtain ⟨r, hr, h⟩ := List.any_eq_true.1 ha
      exact e r hr h
    have hlf : (l.filter p).length ≤ l.length := List.length_filter_le _ _
    have hmin := zjg (l.filter p) hne false (by omega)
    have hpos : 0 < (l.filter p).length := List.length_pos_iff.2 hne
    have hP' := hP
    rcases hP with ⟨h, _⟩ | ⟨z, rest, rfl, hz7, hz, hzn⟩
    · exact absurd (by simpa using h) hne
    rw [List.length_map] at hP' ⊢
    have hl0 : ¬ ((l.filter p).length = 0) := by omega
    have FF := fI @a0 (fI @a3 (fI @a4 (fI @m4' @hl0))); refine goB ?_; clear FF
    refine PCalls.useP hmin rfl hP' ?_
    have FF := fI @a0 (fI @a3 (fI @a4 (fI @m4' (fI @zg @zbD)))); refine goC ?_; clear FF
    exact zF (.inr rfl) rfl (hE3.setF f4) (by simp [a4, m4', St.set, zg]; exact zp _)
def zex (d a : Int) (r : Ru) : Bool := decide (1 < r.kind) && zeJ r d a
def zey (d a : Int) (r : Ru) : Bool := decide (r.kind ≤ 1) && zeJ r d a
theorem zlQ (r : Ru) (d a : Int) : PCalls Tryz.prog 45 [zc r, .pp [.raw (.int .i64 d)] 0, .pp [.raw (.int .u32 a)] 0] (.raw (.bool (zex d a r))) := by
  refine zD Tryz.func45 rfl (N := 14) rfl rfl (by simp) (by simp [noIds]) fun σ => ?_
  obtain ⟨b, hb⟩ : ∃ b, decide (1 < r.kind) = b := ⟨_, rfl⟩
  unfold zex
  rw [hb]
  have FF := fI @zg (fI @zaD (fI @hb @zp)); refine goB ?_; clear FF
  refine PCalls.use (zgC r d a) ?_
  exact zik
theorem zlR (r : Ru) (d a : Int) : PCalls Tryz.prog 42 [zc r, .pp [.raw (.int .i64 d)] 0, .pp [.raw (.int .u32 a)] 0] (.raw (.bool (zey d a r))) := by
  refine zD Tryz.func42 rfl (N := 14) rfl rfl (by simp) (by simp [noIds]) fun σ => ?_
  obtain ⟨b, hb⟩ : ∃ b, decide (r.kind ≤ 1) = b := ⟨_, rfl⟩
  unfold zey
  rw [hb]
  have FF := fI @zg (fI @zaD (fI @hb @zp)); refine goB ?_; clear FF
  refine PCalls.use (zgC r d a) ?_
  exact zik
end Go.Proofs.YtckabcbfbpejkaaGreatDoor.Av
namespace Go.Proofs.YtckabcbfbpejkaaGreatDoor.Av
open Go
set_option linter.unusedSimpArgs false
set_option linter.unusedVariables false
set_option maxRecDepth 100000
set_option maxHeartbeats 2000000
set_option pp.maxSteps 300
def zcy (l : List Ru) (d a : Int) : Bool := l.any (zex d a) && decide ((zau (l.filter (zex d a))).kind = 3)
theorem zd6 (l : List Ru) (f : Bool) (d a : Int) (hl : l.length < 2932031007403) : PCalls Tryz.prog 17 [za l f, .raw (.int .i64 d), .raw (.int .u32 a)] (.raw (.bool (zcy l d a))) := by
  have hf := zgE (g := 45) (caps := [.pp [.raw (.int .i64 d)] 0, .pp [.raw (.int .u32 a)] 0]) l f hl (fun r _ => zlQ r d a)
  obtain ⟨b, hb⟩ : ∃ b, l.any (zex d a) = b := ⟨_, rfl⟩
  obtain ⟨m, hmm⟩ : ∃ m, zau (l.filter (zex d a)) = m := ⟨_, rfl⟩
  unfold zcy
  rw [hb, hmm] at hf ⊢
  refine zD Tryz.func17 rfl (N := 21) rfl rfl (by simp) (by simp [noIds]) fun σ => ?_
  repeat (refine zv ?_)
  refine zw ?_
  simp
  refine zbN ⟨4, σ.nx 4, 1⟩ ?_
  refine zbN ⟨5, σ.nx 5, 1⟩ ?_
  generalize hτ : St.del _ _ = τ
  generalize hA : (fun t => zE _ _ _) = A
  have a0 : A 0 = za l f := by rw [← hA]; simp [za]
  have a4 : A 4 = .pp [.raw (.int .i64 d)] 0 := by rw [← hA, ← hτ]; simp [zE, St.new, St.del]
  have a5 : A 5 = .pp [.raw (.int .u32 a)] 0 := by rw [← hA, ← hτ]; simp [zE, St.new, St.del]
  have hE : Ext σ τ := by
    rw [← hτ]
    refine ⟨fun i o h => ?_, fun s => ?_⟩
    · rw [zW (fun e => by rw [e, zu] at h; cases h), zW (fun e => by rw [e, zu] at h; cases h)]
      exact za6 _ _ (za6 _ _ h)
    · exact Nat.le_trans (St.new_le σ 4 1 (.buf [.raw (.int .i64 d)]) s) (St.new_le (σ.new 4 1 (.buf [.raw (.int .i64 d)])) 5 1 (.buf [.raw (.int .u32 a)]) s)
  clear hτ hA
  have FF := fI @a0 (fI @a4 @a5); refine goB ?_; clear FF
  refine PCalls.use hf ?_
  have FF := fI @a0 (fI @a4 (fI @a5 (fI @zg (fI @zaD @hE)))); exact goA
def zb5 (l : List Ru) (d a : Int) : Ru := zau (l.filter (zey d a))
def zdl (l : List Ru) (d a : Int) : Bool := l.any (zey d a)
theorem zda (l : List Ru) (f : Bool) (d a : Int) (hl : l.length < 2932031007403) : PCalls Tryz.prog 14 [za l f, .raw (.int .i64 d), .raw (.int .u32 a)] (.tup [zc (zb5 l d a), .raw (.bool (zdl l d a))]) := by
  have hf := zgE (g := 42) (caps := [.pp [.raw (.int .i64 d)] 0, .pp [.raw (.int .u32 a)] 0]) l f hl (fun r _ => zlR r d a)
  unfold zb5 zdl
  obtain ⟨b, hb⟩ : ∃ b, l.any (zey d a) = b := ⟨_, rfl⟩
  obtain ⟨m, hmm⟩ : ∃ m, zau (l.filter (zey d a)) = m := ⟨_, rfl⟩
  rw [hb, hmm] at hf ⊢
  refine zD Tryz.func14 rfl (N := 13) rfl rfl (by simp) (by simp [noIds, zc]) fun σ => ?_
  repeat (refine zv ?_)
  refine zw ?_
  simp
  refine zbN ⟨4, σ.nx 4, 1⟩ ?_
  refine zbN ⟨5, σ.nx 5, 1⟩ ?_
  generalize hτ : St.del _ _ = τ
  generalize hA : (fun t => zE _ _ _) = A
  have a0 : A 0 = za l f := by rw [← hA]; simp [za]
  have a4 : A 4 = .pp [.raw (.int .i64 d)] 0 := by rw [← hA, ← hτ]; simp [zE, St.new, St.del]
  have a5 : A 5 = .pp [.raw (.int .u32 a)] 0 := by rw [← hA, ← hτ]; simp [zE, St.new, St.del]
  have a6 : A 6 = .rp ⟨6, σ.nx 6, 7⟩ 0 0 := by rw [← hA, ← hτ]; simp [zE, St.new, St.del]
  have m6 : τ.m ⟨6, σ.nx 6, 7⟩ = some (.buf [zc ⟨0, 0, 0, 0, ⟨0, 0⟩, 0⟩]) := by rw [← hτ]; simp [St.new, St.del, zc]
  have hE : Ext σ τ := by
    rw [← hτ]
    refine ⟨fun i o h => ?_, fun s => ?_⟩
    · rw [zW (fun e => by rw [e, zu] at h; cases h), zW (fun e => by rw [e, zu] at h; cases h)]
      exact za6 _ _ (za6 _ _ (za6 _ _ h))
    · exact Nat.le_trans (Nat.le_trans (St.new_le σ 4 1 (.buf [.raw (.int .i64 d)]) s) (St.new_le (σ.new 4 1 (.buf [.raw (.int .i64 d)])) 5 1 (.buf [.raw (.int .u32 a)]) s)) (St.new_le ((σ.new 4 1 (.buf [.raw (.int .i64 d)])).new 5 1 (.buf [.raw (.int .u32 a)])) 6 7 (.buf [zc ⟨0, 0, 0, 0, ⟨0, 0⟩, 0⟩]) s)
  clear hτ hA
  have f6 : σ.m ⟨6, σ.nx 6, 7⟩ = none := zu _ _ _
  have FF := fI @a0 (fI @a4 (fI @a5 (fI @a6 @m6))); refine goB ?_; clear FF
  refine PCalls.use hf ?_
  have FF := fI @a0 (fI @a4 (fI @a5 (fI @a6 (fI @m6 (fI @zg @zbD))))); refine goC ?_; clear FF
  exact zF (.inr rfl) rfl (hE.setF f6) (by simp [a6, m6, St.set, zg]; exact zp _)
def zaZ (last : Int) : List Ru → Bool
  | [] => true
  | r :: l => zay r && decide (last < r.id) && zaZ r.id l
def zbY (l : List Ru) : Bool := zaZ 0 l && decide (l.length ≤ 40)
theorem zmE (l : List Ru) (f : Bool) (hl : l.length < 2932031007403) : PCalls Tryz.prog 29 [za l f] (.raw (.bool (zbY l))) := by
  refine zD Tryz.func29 rfl (N := 27) rfl rfl (by simp) (by simp [noIds]) fun σ => ?_
  have FF := za.eq_1; refine goB ?_; clear FF
  refine z1 (fun n A τ => Ext σ τ ∧ A 0 = za l f ∧ A 6 = za l f ∧ A 7 = .raw (.int .i64 l.length) ∧ ∃ (i : Nat) (last : Int), A 8 = .raw (.int .i64 i) ∧ A 3 = .raw (.int .i64 last) ∧ i ≤ l.length ∧ n = l.length - i ∧ zaZ 0 l = zaZ last (l.drop i)) l.length ?_ ?_
  · exact ⟨by simp, by simp [za], by simp [za], by simp [za], 0, 0, by simp, by simp, by omega, by omega, by simp⟩
  rintro n A τ ⟨hE, a0, a6, a7, i, last, a8, a3, hi, rfl, hall⟩ I1 hI1
  by_cases hlt : i < l.length
  · have hx : l[i]? = some l[i] := List.getElem?_eq_getElem hlt
    have w1 : IntKind.i64.wrap ((i : Int) + 1) = ((i + 1 : Nat) : Int) := by rw [zA (by omega) (by omega)]; omega
    have hd : l.drop i = l[i] :: l.drop (i + 1) := List.drop_eq_getElem_cons hlt
    rw [hd] at hall
    simp only [zaZ] at hall
    obtain ⟨b, hb⟩ : ∃ b, zay l[i] = b := ⟨_, rfl⟩
    have hr := hb ▸ zcK l[i]
    rw [hb] at hall
    (try ((first | with_reducible refine zy ?_ | with_reducible refine zG ?_ | with_reducible refine zH ?_); simp [za, a0, a6, a7, a8, a3, hlt, hx, zg, zaD, zp, w1])); repeat' (first | ((first | refine zt ?_ | refine zw ?_ | refine dN (by decide +kernel) ?_ | (refine zh ?_ ?_ <;> (intro hg; simp only [hg])) | fail) <;> simp [za, a0, a6, a7, a8, a3, hlt, hx, zg, zaD, zp, w1]) | refine zv ?_ | refine zr ?_ | (refine zO ?_; simp only [zP]; try simp) | ((first | refine zI (by simp) ?_ | refine zF (by simp) (by simp) (by simp (maxDischargeDepth := 30) [za, a0, a6, a7, a8, a3, hlt, hx, zg, zaD, zp, w1]) ?_ | fail); simp) | (refine zm (fun hc => ?_) (fun hc => ?_) <;> try simp at hc) | fail)
    refine PCalls.use hr ?_
    cases b with
    | false =>
      have FF := fI za.eq_1 (fI @a0 (fI @a6 (fI @a7 (fI @a8 (fI @a3 (fI @hlt (fI @hx (fI @zg (fI @zaD (fI @zp (fI @w1 @hE))))))))))); refine goB ?_; clear FF
      simp [zbY, hall]
    | true =>
      by_cases hlast : l[i].id ≤ last
      · have FF := fI za.eq_1 (fI @a0 (fI @a6 (fI @a7 (fI @a8 (fI @a3 (fI @hlt (fI @hx (fI @zg (fI @zaD (fI @zp (fI @w1 (fI @hE @hlast)))))))))))); refine goB ?_; clear FF
        have : ¬ last < l[i].id := by omega
        simp [zbY, hall, this]
      · have FF := fI za.eq_1 (fI @a0 (fI @a6 (fI @a7 (fI @a8 (fI @a3 (fI @hlt (fI @hx (fI @zg (fI @zaD (fI @zp (fI @w1 @hlast))))))))))); refine goB ?_; clear FF
        have hg : last < l[i].id := by omega
        exact hI1 (l.length - (i + 1)) _ _ (by omega) ⟨by simp [hE], by simp [a0], by simp [a6, za], by simp [a7], i + 1, l[i].id, by simp, by simp, by omega, rfl, by simpa [hg] using hall⟩
  · have : i = l.length := by omega
    subst this
    have FF := fI za.eq_1 (fI @a0 (fI @a6 (fI @a7 (fI @a8 (fI @a3 @hE))))); refine goB ?_; clear FF
    rw [List.drop_length] at hall
    simp only [zaZ] at hall
    simp [zbY, hall]
    omega
end Go.Proofs.YtckabcbfbpejkaaGreatDoor.Av
namespace Go.Proofs.YtckabcbfbpejkaaGreatDoor.Av
open Go
set_option linter.unusedSimpArgs false
set_option linter.unusedVariables false
def zhQ (j : Id) : AV → Prop
  | .rp i _ _ => i ≠ j
  | .rs i _ _ => i ≠ j
  | _ => True
theorem zlS {σ : St} {j : Id} : ∀ {v : AV}, zhQ j v → zE (σ.del j).m σ.m v = v
  | .rp _ _ _, h => zfW h
  | .rs _ _ _, h => zfX h
  | .raw _, _ | .agg _, _ | .tup _, _ | .pp _ _, _ | .sl _ _ _, _ | .fn _ _ _, _ | .mp _, _ | .ifc _ _, _ | .any, _ => rfl
theorem zgF {P : Program} {N : Nat} {A : zn} {σ : St} {r : Option Nat} {K : Exit → zn → St → Prop} {c : Code} (j : Id) {a : AV} (hj : σ.m j = some (.buf [a]))
    (h : ∀ B : zn, (∀ t v, A t = v → zhQ j v → B t = v) → (∀ t off, A t = .rp j 0 off → B t = .pp a.cells off) → AWP P r N c K B (σ.del j)) : AWP P r N c K A σ := by
  refine zbN j (h _ (fun t v e hv => ?_) fun t off e => ?_)
  · show zE _ _ (A t) = _
    rw [e, zlS hv]
  · show zE _ _ (A t) = _
    rw [e, zc0 (by simp [St.del]) hj rfl]
theorem Ext.delZ {σ τ : St} {i : Id} (h : Ext σ τ) (hi : σ.m i = none) : Ext σ (τ.del i) :=
  ⟨fun j o hj => by rw [zW (fun e => by rw [e, hi] at hj; cases hj)]; exact h.m j o hj, h.nx⟩
end Go.Proofs.YtckabcbfbpejkaaGreatDoor.Av
namespace Go.Proofs.YtckabcbfbpejkaaGreatDoor.Av
open Go
set_option linter.unusedSimpArgs false
set_option linter.unusedVariables false
set_option maxRecDepth 100000
set_option maxHeartbeats 4000000
set_option pp.maxSteps 600
@[simp] theorem zo0 (K : Id → Prop) (p : Ru) : (zc p).ids K := by simp [zc, AV.ids, zx]
theorem zqp (i j : Nat) : ((i : Int) + j).fdiv 2 = ((i + j) / 2 : Nat) := by
  rw [Int.fdiv_eq_ediv_of_nonneg _ (by omega)]; omega
def firstGe (c : Ru → Int) (z : List Ru) : Nat := z.findIdx fun r => decide (0 ≤ c r)
theorem zin (g : FuncId) (c : Ru → Int) (z : List Ru) (fz : Bool) (a : Int) (hl : z.length < 2 ^ 60)
    (hg : ∀ r ∈ z, PCalls Tryz.prog g [zc r, .raw (.int .i64 a)] (.raw (.int .i64 (c r))))
    (hm : ∀ (i j : Nat) r s, i < j → z[i]? = some r → z[j]? = some s → c s < 0 → c r < 0) :
    PCalls Tryz.prog 38 [za z fz, .raw (.int .i64 a), .fn (.func g) [] []] (.tup [.raw (.int .i64 (firstGe c z)), .raw (.bool (match z[firstGe c z]? with | some r => decide (c r = 0) | none => false))]) := by
  refine zD Tryz.func38 rfl (N := 49) rfl rfl (by simp) (by simp [noIds]) fun σ => ?_
  have FF := za.eq_1; refine goB ?_; clear FF
  refine zjL (fun n A τ => τ = σ ∧ A 0 = za z fz ∧ A 1 = .raw (.int .i64 a) ∧ A 2 = .fn (.func g) [] [] ∧ A 8 = .raw (.int .i64 z.length) ∧ ∃ i j : Nat, A 9 = .raw (.int .i64 i) ∧ A 10 = .raw (.int .i64 j) ∧ i ≤ j ∧ j ≤ z.length ∧ n = j - i ∧
    (∀ k r, k < i → z[k]? = some r → c r < 0) ∧ (∀ k r, j ≤ k → z[k]? = some r → 0 ≤ c r)) z.length ?_ ?_
  · simp [za]
    refine ⟨0, by simp, z.length, by simp, by omega, by omega, by omega, fun k r h => by omega, fun k r h hk => ?_⟩
    have := (List.getElem?_eq_some_iff.1 hk).1; omega
  rintro n A τ ⟨rfl, a0, a1, a2, a8, i, j, a9, a10, hij, hj, rfl, hlo, hhi⟩
  by_cases hlt : i < j
  · have hh : (i + j) / 2 < z.length := by omega
    have hx : z[(i + j) / 2]? = some z[(i + j) / 2] := List.getElem?_eq_getElem hh
    have w1 : IntKind.i64.wrap ((i : Int) + j) = (i : Int) + j := zA (by omega) (by omega)
    have w2 : IntKind.u64.wrap ((i : Int) + j) = (i : Int) + j := zlb (by omega) (by omega)
    have w3 := zqp i j
    have w4 : IntKind.i64.wrap (((i + j) / 2 : Nat) : Int) = (((i + j) / 2 : Nat) : Int) := zA (by omega) (by omega)
    have w5 : IntKind.i64.wrap ((((i + j) / 2 : Nat) : Int) + 1) = ((((i + j) / 2 : Nat) : Int) + 1) := zA (by omega) (by omega)
    generalize hk : (i + j) / 2 = k at *
    (try ((first | with_reducible refine zy ?_ | with_reducible refine zG ?_ | with_reducible refine zH ?_); simp [a0, a1, a2, a8, a9, a10, za, hlt, hx, w1, w2, w3, w4, w5, IntKind.bits, zg, zp])); repeat' (first | ((first | refine zt ?_ | refine zw ?_ | refine dN (by decide +kernel) ?_ | (refine zh ?_ ?_ <;> (intro hg; simp only [hg])) | fail) <;> simp [a0, a1, a2, a8, a9, a10, za, hlt, hx, w1, w2, w3, w4, w5, IntKind.bits, zg, zp]) | refine zv ?_ | refine zr ?_ | (refine zO ?_; simp only [zP]; try simp) | ((first | refine zI (by simp) ?_ | refine zF (by simp) (by simp) (by simp (maxDischargeDepth := 30) [a0, a1, a2, a8, a9, a10, za, hlt, hx, w1, w2, w3, w4, w5, IntKind.bits, zg, zp]) ?_ | fail); simp) | (refine zm (fun hc => ?_) (fun hc => ?_) <;> try simp at hc) | fail)
    refine PCalls.use (hg z[k] (List.getElem_mem _)) ?_
    (try ((first | with_reducible refine zy ?_ | with_reducible refine zG ?_ | with_reducible refine zH ?_); simp [a0, a1, a2, a8, a9, a10, za, hlt, hx, w1, w2, w3, w4, w5, IntKind.bits, zg, zp])); repeat' (first | ((first | refine zt ?_ | refine zw ?_ | refine dN (by decide +kernel) ?_ | (refine zh ?_ ?_ <;> (intro hg; simp only [hg])) | fail) <;> simp [a0, a1, a2, a8, a9, a10, za, hlt, hx, w1, w2, w3, w4, w5, IntKind.bits, zg, zp]) | refine zv ?_ | refine zr ?_ | (refine zO ?_; simp only [zP]; try simp) | ((first | refine zI (by simp) ?_ | refine zF (by simp) (by simp) (by simp (maxDischargeDepth := 30) [a0, a1, a2, a8, a9, a10, za, hlt, hx, w1, w2, w3, w4, w5, IntKind.bits, zg, zp]) ?_ | fail); simp) | (refine zm (fun hc => ?_) (fun hc => ?_) <;> try simp at hc) | fail)
    · refine ⟨j - (k + 1), by omega, k + 1, by simp, j, rfl, by omega, hj, rfl, fun l r h h2 => ?_, hhi⟩
      by_cases e : l = k
      · subst e
        rw [hx] at h2
        injection h2 with h2
        subst h2; exact hc
      · exact hm l k r z[k] (by omega) h2 hx hc
    · refine ⟨k - i, by omega, i, rfl, k, rfl, by omega, by omega, rfl, hlo, fun l r h h2 => ?_⟩
      by_cases e : l = k
      · subst e
        rw [hx] at h2
        injection h2 with h2
        subst h2; exact hc
      · exact Int.not_lt.1 fun h3 => absurd (hm k l z[k] r (by omega) hx h2 h3) (by omega)
  · have hij : i = j := by omega
    subst hij
    have hf : firstGe c z = i := by
      unfold firstGe
      by_cases hi : i < z.length
      · rw [List.findIdx_eq hi]
        refine ⟨by simpa using hhi i z[i] (Nat.le_refl _) (List.getElem?_eq_getElem hi), fun k hk => ?_⟩
        have := hlo k z[k] hk (List.getElem?_eq_getElem (by omega))
        simpa using this
      · have : i = z.length := by omega
        subst this
        rw [List.findIdx_eq_length]
        intro r hr
        obtain ⟨k, hk, rfl⟩ := List.mem_iff_getElem.1 hr
        have := hlo k z[k] hk (List.getElem?_eq_getElem hk)
        simpa using this
    rw [hf]
    by_cases hi : i < z.length
    · have hx : z[i]? = some z[i] := List.getElem?_eq_getElem hi
      (try ((first | with_reducible refine zy ?_ | with_reducible refine zG ?_ | with_reducible refine zH ?_); simp [a0, a1, a2, a8, a9, a10, za, hx, hi, zg, zp])); repeat' (first | ((first | refine zt ?_ | refine zw ?_ | refine dN (by decide +kernel) ?_ | (refine zh ?_ ?_ <;> (intro hg; simp only [hg])) | fail) <;> simp [a0, a1, a2, a8, a9, a10, za, hx, hi, zg, zp]) | refine zv ?_ | refine zr ?_ | (refine zO ?_; simp only [zP]; try simp) | ((first | refine zI (by simp) ?_ | refine zF (by simp) (by simp) (by simp (maxDischargeDepth := 30) [a0, a1, a2, a8, a9, a10, za, hx, hi, zg, zp]) ?_ | fail); simp) | (refine zm (fun hc => ?_) (fun hc => ?_) <;> try simp at hc) | fail)
      refine PCalls.use (hg z[i] (List.getElem_mem _)) ?_
      have FF := fI @a0 (fI @a1 (fI @a2 (fI @a8 (fI @a9 (fI @a10 (fI za.eq_1 (fI @hx (fI @hi (fI @zg @zp))))))))); refine goB ?_; clear FF
      rw [hx]
    · have hx : z[i]? = none := List.getElem?_eq_none (by omega)
      have FF := fI @a0 (fI @a1 (fI @a2 (fI @a8 (fI @a9 (fI @a10 (fI za.eq_1 (fI @hx (fI @hi (fI @zg @zp))))))))); refine goB ?_; clear FF
      rw [hx]
theorem zg5 {a b : Int} : cmpI a b < 0 ↔ a < b := by unfold cmpI; (repeat' split) <;> omega
theorem zmF {a b : Int} : cmpI a b = 0 ↔ a = b := by unfold cmpI; (repeat' split) <;> omega
def zaK (z : List Ru) (id : Int) : Nat := firstGe (fun r => cmpI r.id id) z
def zcm (z : List Ru) (id : Int) : Bool := match z[zaK z id]? with | some r => decide (r.id = id) | none => false
def ru0 : Ru := ⟨0, 0, 0, 0, ⟨0, 0⟩, 0⟩
theorem zj4 : AV.agg [.raw (.int .i64 0), .raw (.int .i64 0), .raw (.int .i64 0), .raw (.int .i64 0), .raw (.int .u32 0), .raw (.int .u32 0), .raw (.int .i64 0)] = zc ru0 := rfl
def Srt (l : List Ru) : Prop := l.Pairwise fun r s => r.id < s.id
theorem zj5 {l : List Ru} {id : Int} {k : Nat} {r : Ru} (hk : l[k]? = some r) (h : k < zaK l id) : r.id < id := by
  obtain ⟨hl, rfl⟩ := List.getElem?_eq_some_iff.1 hk
  have := List.not_of_lt_findIdx (p := fun r : Ru => decide (0 ≤ cmpI r.id id)) (xs := l) (i := k) h
  simp only [decide_eq_true_eq, Int.not_le, decide_eq_false_iff_not] at this
  exact zg5.1 this
theorem zns {l : List Ru} {id : Int} {r : Ru} (hk : l[zaK l id]? = some r) : id ≤ r.id := by
  obtain ⟨hl, rfl⟩ := List.getElem?_eq_some_iff.1 hk
  have := List.findIdx_getElem (p := fun r : Ru => decide (0 ≤ cmpI r.id id)) (xs := l) (w := hl)
  simp only [decide_eq_true_eq] at this
  refine Int.not_lt.1 fun h => ?_
  have h2 := zg5.2 h
  have h3 : l[zaK l id] = l[List.findIdx (fun r : Ru => decide (0 ≤ cmpI r.id id)) l]'hl := rfl
  rw [h3] at h2
  omega
theorem zn6 {l : List Ru} {id : Int} (h : zcm l id = false) {r : Ru} (hk : l[zaK l id]? = some r) : id < r.id := by
  have := zns hk
  unfold zcm at h
  rw [hk] at h
  simp only [decide_eq_false_iff_not] at h
  omega
theorem znt {l : List Ru} (hs : Srt l) {id : Int} (h : zcm l id = false) {k : Nat} {r : Ru} (hk : l[k]? = some r) (hp : zaK l id ≤ k) : id < r.id := by
  obtain ⟨hl, hr⟩ := List.getElem?_eq_some_iff.1 hk
  have hx : l[zaK l id]? = some (l[zaK l id]'(by omega)) := List.getElem?_eq_getElem (by omega)
  have a := zn6 h hx
  rcases Nat.eq_or_lt_of_le hp with e | e
  · subst e; rw [hx] at hk; injection hk with hk; rw [← hk]; exact a
  · have := List.pairwise_iff_getElem.1 hs _ _ (by omega) hl e
    rw [hr] at this; omega
def zio (id : Int) (r : Ru) : Bool := decide (r.id = id)
def zbs (l : List Ru) (id : Int) : Option Ru := l.find? (zio id)
theorem zdm : (zc ru0).cells = [.raw (.int .i64 0), .raw (.int .i64 0), .raw (.int .i64 0), .raw (.int .i64 0), .raw (.int .u32 0), .raw (.int .u32 0), .raw (.int .i64 0)] := rfl
theorem zbV (r s : Ru) : setPart (zc r) 0 [.raw (.int .i64 s.id), .raw (.int .i64 s.dev), .raw (.int .i64 s.prio), .raw (.int .i64 s.kind), .raw (.int .u32 s.r.lo), .raw (.int .u32 s.r.hi), .raw (.int .i64 s.port)] = zc s := rfl
theorem zn7 (r : Ru) : setPart (zc r) 0 [.raw (.int .i64 0), .raw (.int .i64 0), .raw (.int .i64 0), .raw (.int .i64 0), .raw (.int .u32 0), .raw (.int .u32 0), .raw (.int .i64 0)] = zc ru0 := rfl
theorem zjh (l : List Ru) (f : Bool) (id : Int) (hl : l.length < 2 ^ 60) :
    PCalls Tryz.prog 13 [za l f, .raw (.int .i64 id)] (.tup [zc ((zbs l id).getD ru0), .raw (.bool (zbs l id).isSome)]) := by
  refine zD Tryz.func13 rfl (N := 25) rfl rfl (by simp) (by simp [noIds, zo0]) fun σ => ?_
  have f4 : σ.m ⟨4, σ.nx 4, 7⟩ = none := zu _ _ _
  have FF := fI @zl (fI @zo (fI @zb (fI @zj4 @zdm))); refine gxC ?_; clear FF
  refine z1 (fun n A τ => Ext σ τ ∧ A 0 = za l f ∧ A 1 = .raw (.int .i64 id) ∧ A 4 = .rp ⟨4, σ.nx 4, 7⟩ 0 0 ∧ τ.m ⟨4, σ.nx 4, 7⟩ = some (.buf [zc ru0]) ∧ ∃ i : Nat, A 6 = .raw (.int .i64 i) ∧ i ≤ l.length ∧ n = l.length - i ∧ zbs l id = zbs (l.drop i) id) l.length ?_ ?_
  · exact ⟨(by exact exA), by simp, by simp, by simp [zdm], by simp [zl, zdm], 0, by simp, by omega, by omega, by simp⟩
  generalize (⟨4, σ.nx 4, 7⟩ : Id) = i4 at *
  rintro n A τ ⟨hE, a0, a1, a4, m4, i, a6, hi, rfl, hf⟩ I1 hI1
  by_cases hlt : i < l.length
  · have hx : l[i]? = some l[i] := List.getElem?_eq_getElem hlt
    obtain ⟨r, hr⟩ : ∃ r, l[i] = r := ⟨_, rfl⟩
    rw [List.drop_eq_getElem_cons hlt, hr] at hf
    have w1 : IntKind.i64.wrap ((i : Int) + 1) = ((i + 1 : Nat) : Int) := by rw [zA (by omega) (by omega)]; omega
    by_cases he : r.id = id
    · have he' := eq_true he
      have e1 : zbs l id = some r := by rw [hf]; simp [zbs, zio, he]
      rw [e1]
      have FF := fI @a0 (fI @a1 (fI @a4 (fI @a6 (fI @m4 (fI za.eq_1 (fI @hlt (fI @hx (fI @hr (fI @zdm (fI @zg (fI @zp (fI @he' (fI @zbV (fI @zl (fI @zo @zb))))))))))))))); exact zJ
    · have he' := eq_false he
      have e1 : zbs l id = zbs (l.drop (i + 1)) id := by rw [hf]; simp [zbs, zio, he]
      have FF := fI @a0 (fI @a1 (fI @a4 (fI @a6 (fI @m4 (fI za.eq_1 (fI @hlt (fI @hx (fI @hr (fI @zg (fI @zp (fI @he' @w1))))))))))); refine gxB ?_; clear FF
      exact hI1 (l.length - (i + 1)) _ _ (by omega) ⟨hE, by simp [a0, za], by simp [a1], by simp [a4], m4, i + 1, by simp, by omega, rfl, e1⟩
  · have e1 : zbs l id = none := by rw [hf, List.drop_of_length_le (by omega)]; rfl
    rw [e1]
    have FF := fI @a0 (fI @a1 (fI @a4 (fI @a6 (fI @m4 (fI za.eq_1 (fI @hlt (fI @zj4 (fI @zdm (fI @zn7 (fI @zl (fI @zo @zb))))))))))); exact zJ
theorem zlT {l : List Ru} (hs : Srt l) (id : Int) : zbs l id = if zcm l id = true then l[zaK l id]? else none := by
  cases hh : zcm l id with
  | true =>
    rw [if_pos rfl]
    have hh2 := hh
    unfold zcm at hh2
    cases hx : l[zaK l id]? with
    | none => rw [hx] at hh2; cases hh2
    | some r =>
      rw [hx] at hh2
      simp only [decide_eq_true_eq] at hh2
      unfold zbs
      rw [List.find?_eq_some_iff_append]
      obtain ⟨hl, hv⟩ := List.getElem?_eq_some_iff.1 hx
      refine ⟨by simp [zio, hh2], l.take (zaK l id), l.drop (zaK l id + 1), ?_, fun a ha => ?_⟩
      · rw [← hv, ← List.drop_eq_getElem_cons hl, List.take_append_drop]
      · obtain ⟨k, hk, rfl⟩ := List.mem_take_iff_getElem.1 ha
        have hk' : k < zaK l id := by omega
        have := zj5 (List.getElem?_eq_getElem (l := l) (i := k) (by omega)) hk'
        simp [zio]; omega
  | false =>
    rw [if_neg (by simp)]
    unfold zbs
    rw [List.find?_eq_none]
    intro x hx he
    simp only [zio, decide_eq_true_eq] at he
    obtain ⟨k, hk, rfl⟩ := List.mem_iff_getElem.1 hx
    have hk' : l[k]? = some l[k] := List.getElem?_eq_getElem hk
    by_cases hp : zaK l id ≤ k
    · have := znt hs hh hk' hp; omega
    · have := zj5 (id := id) hk' (by omega); omega
end Go.Proofs.YtckabcbfbpejkaaGreatDoor.Av
namespace Go.Proofs.YtckabcbfbpejkaaGreatDoor.Av
open Go
set_option linter.unusedSimpArgs false
set_option linter.unusedVariables false
set_option maxRecDepth 100000
set_option maxHeartbeats 2000000
set_option pp.maxSteps 300
def zf0 (l : List Ru) (i : Nat) : Int := match i with | 0 => 0 | k + 1 => match l[k]? with | some r => r.id | none => 0
theorem zj6 (l : List Ru) (f : Bool) (hl : l.length < 2932031007403) (hid : ∀ r ∈ l, -9223372036854775808 ≤ r.id ∧ r.id < 9223372036854775808) : PCalls Tryz.prog 11 [za l f] (.raw (.bool (zbY l))) := by
  refine zD Tryz.func11 rfl (N := 39) rfl rfl (by simp) (by simp [noIds]) fun σ => ?_
  have FF := za.eq_1; refine goB ?_; clear FF
  refine z1 (fun n A τ => τ = σ ∧ A 0 = za l f ∧ ∃ i : Nat, A 3 = .raw (.int .i64 i) ∧ i ≤ l.length ∧ n = l.length - i ∧ zaZ 0 l = zaZ (zf0 l i) (l.drop i)) l.length ?_ ?_
  · exact ⟨rfl, by simp [za], 0, by simp, by omega, by omega, by simp [zf0]⟩
  rintro n A τ ⟨rfl, a0, i, a3, hi, rfl, hall⟩ I1 hI1
  by_cases hlt : i < l.length
  · have hx : l[i]? = some l[i] := List.getElem?_eq_getElem hlt
    have w1 : IntKind.i64.wrap ((i : Int) + 1) = ((i + 1 : Nat) : Int) := by rw [zA (by omega) (by omega)]; omega
    have hd : l.drop i = l[i] :: l.drop (i + 1) := List.drop_eq_getElem_cons hlt
    rw [hd] at hall
    simp only [zaZ] at hall
    obtain ⟨b, hb⟩ : ∃ b, zay l[i] = b := ⟨_, rfl⟩
    have hr := hb ▸ zaJ l[i] (hid _ (List.getElem_mem _)).1 (hid _ (List.getElem_mem _)).2
    rw [hb] at hall
    (try ((first | with_reducible refine zy ?_ | with_reducible refine zG ?_ | with_reducible refine zH ?_); simp [za, a0, a3, hlt, hx, zg, zaD, zp, w1])); repeat' (first | ((first | refine zt ?_ | refine zw ?_ | refine dN (by decide +kernel) ?_ | (refine zh ?_ ?_ <;> (intro hg; simp only [hg])) | fail) <;> simp [za, a0, a3, hlt, hx, zg, zaD, zp, w1]) | refine zv ?_ | refine zr ?_ | (refine zO ?_; simp only [zP]; try simp) | ((first | refine zI (by simp) ?_ | refine zF (by simp) (by simp) (by simp (maxDischargeDepth := 30) [za, a0, a3, hlt, hx, zg, zaD, zp, w1]) ?_ | fail); simp) | (refine zm (fun hc => ?_) (fun hc => ?_) <;> try simp at hc) | fail)
    refine PCalls.use hr ?_
    cases b with
    | false =>
      have FF := fI za.eq_1 (fI @a0 (fI @a3 (fI @hlt (fI @hx (fI @zg (fI @zaD (fI @zp @w1))))))); refine goB ?_; clear FF
      all_goals simp [zbY, hall]
    | true =>
      cases i with
      | zero =>
        have hpos : 1 ≤ l[0].id := by
          have := hb; unfold zay at this; simp at this; omega
        have FF := fI za.eq_1 (fI @a0 (fI @a3 (fI @hlt (fI @hx (fI @zg (fI @zaD (fI @zp @w1))))))); refine goB ?_; clear FF
        have w0 : IntKind.i64.wrap 1 = 1 := zA (by omega) (by omega)
        have hx0 : l[0]? = some l[0] := hx
        have h0 : (0 : Int) < l[0].id := by omega
        have h1 : zf0 l 1 = l[0].id := by simp [zf0, hx0]
        exact hI1 (l.length - 1) _ _ (by omega) ⟨rfl, by simp [a0, za], 1, by simp [w0], by omega, rfl, by rw [hall, h1]; simp [zf0, h0]⟩
      | succ k =>
        have hk : k < l.length := by omega
        have hxk : l[k]? = some l[k] := List.getElem?_eq_getElem hk
        have w2 : IntKind.i64.wrap (k : Int) = k := zA (by omega) (by omega)
        have hp0 : (0 : Int) ≤ (k : Int) + 1 := by omega
        have htn : ((k : Int) + 1).toNat = k + 1 := by omega
        have w4 : IntKind.i64.wrap ((k : Int) + 1 + 1) = (k : Int) + 1 + 1 := zA (by omega) (by omega)
        have w3 : IntKind.i64.wrap ((k : Int) + 1 - 1) = k := by rw [zA (by omega) (by omega)]; omega
        have hidk : zf0 l (k + 1) = l[k].id := by simp [zf0, hxk]
        rw [hidk] at hall
        have hpk : (0 : Int) < (k : Int) + 1 := by omega
        by_cases hle : l[k + 1].id ≤ l[k].id
        · have hnl : ¬ l[k].id < l[k + 1].id := by omega
          have FF := fI za.eq_1 (fI @a0 (fI @a3 (fI @hlt (fI @hx (fI @hk (fI @hxk (fI @zg (fI @zaD (fI @zp (fI @w1 (fI @w2 (fI @w3 (fI @w4 (fI @hp0 (fI @htn (fI @hpk @hle)))))))))))))))); refine goB ?_; clear FF
          all_goals simp [zbY, hall, hnl]
        · have hg : l[k].id < l[k + 1].id := by omega
          (try ((first | with_reducible refine zy ?_ | with_reducible refine zG ?_ | with_reducible refine zH ?_); simp [za, a0, a3, hlt, hx, hk, hxk, zg, zaD, zp, w1, w2, w3, w4, hp0, htn, hpk, hle])); repeat' (first | ((first | refine zt ?_ | refine zw ?_ | refine dN (by decide +kernel) ?_ | (refine zh ?_ ?_ <;> (intro hg; simp only [hg])) | fail) <;> simp [za, a0, a3, hlt, hx, hk, hxk, zg, zaD, zp, w1, w2, w3, w4, hp0, htn, hpk, hle]) | refine zv ?_ | refine zr ?_ | (refine zO ?_; simp only [zP]; try simp) | ((first | refine zI (by simp) ?_ | refine zF (by simp) (by simp) (by simp (maxDischargeDepth := 30) [za, a0, a3, hlt, hx, hk, hxk, zg, zaD, zp, w1, w2, w3, w4, hp0, htn, hpk, hle]) ?_ | fail); simp) | (refine zm (fun hc => ?_) (fun hc => ?_) <;> try simp at hc) | fail)
          exact hI1 (l.length - (k + 1 + 1)) _ _ (by omega) ⟨rfl, by simp [a0, za], k + 1 + 1, by simp, by omega, rfl, by rw [hall]; simp [zf0, hx, hg]⟩
  · have : i = l.length := by omega
    subst this
    have FF := fI za.eq_1 (fI @a0 @a3); refine goB ?_; clear FF
    rw [List.drop_length] at hall
    simp only [zaZ] at hall
    simp [zbY, hall]
    omega
end Go.Proofs.YtckabcbfbpejkaaGreatDoor.Av
namespace Go.Proofs.YtckabcbfbpejkaaGreatDoor.Av
open Go
set_option linter.unusedSimpArgs false
set_option linter.unusedVariables false
set_option maxRecDepth 100000
set_option maxHeartbeats 2000000
set_option pp.maxSteps 300
theorem zn8 {T : Type} [DecidableEq T] {x y : List T} {i : Nat} (h : x.take i = y.take i) {a : T} (hx : x[i]? = some a) (hy : y[i]? = some a) : x.take (i + 1) = y.take (i + 1) := by
  rw [List.take_add_one, List.take_add_one, h, hx, hy]
end Go.Proofs.YtckabcbfbpejkaaGreatDoor.Av
namespace Go.Proofs.YtckabcbfbpejkaaGreatDoor.Av
open Go
set_option linter.unusedSimpArgs false
set_option linter.unusedVariables false
set_option maxRecDepth 100000
set_option maxHeartbeats 2000000
set_option pp.maxSteps 300
def ptV (p : Pt) : Value := .agg #[.int .i64 p.dev, .int .i64 p.port]
def enc (m : List (Pt × Pt)) : List (Value × AV) := m.map fun e => (ptV e.1, zry e.2)
def upd (m : List (Pt × Pt)) (k v : Pt) : List (Pt × Pt) := m.filter (fun e => decide (k ≠ e.1)) ++ [(k, v)]
def zur (m : List (Pt × Pt)) : Prop := (m.map (·.1)).Nodup
def zlU (L : List Lk) : List (Pt × Pt) := L.foldl (fun m l => upd (upd m l.a l.b) l.b l.a) []
def zhR (t : Tp) (p : Pt) : Option Pt := ((zlU t.links).find? fun e => decide (p = e.1)).map (·.2)
end Go.Proofs.YtckabcbfbpejkaaGreatDoor.Av
namespace Go.Proofs.YtckabcbfbpejkaaGreatDoor.Av
open Go
set_option linter.unusedSimpArgs false
set_option linter.unusedVariables false
set_option maxRecDepth 100000
set_option maxHeartbeats 2000000
set_option pp.maxSteps 300
def zn9 (t : Tp) (l : Lk) : Bool := !hasB t l.a || (!hasB t l.b || decide (l.a = l.b))
def zqq (t : Tp) (l : List Ru) : Bool := !(l.any fun r => !hasB t ⟨r.dev, r.port⟩)
def znu (t : Tp) : Bool := t.ports.any fun n => decide (n < 1) || decide (4 < n)
def zo1 (t : Tp) : Bool := !decide (t.ports.length = 0) && (!decide (8 < t.ports.length) && (!decide (16 < t.links.length) && (!znu t && (!t.links.any (zn9 t) && decide ((zlU t.links).length = 2 * t.links.length)))))
end Go.Proofs.YtckabcbfbpejkaaGreatDoor.Av
namespace Go.Proofs.YtckabcbfbpejkaaGreatDoor.Av
open Go
set_option linter.unusedSimpArgs false
set_option linter.unusedVariables false
set_option maxRecDepth 100000
set_option maxHeartbeats 2000000
set_option pp.maxSteps 300
theorem zas {P : Program} {op : BinOp} {t : TypeId} {a b : Value} : zaB P op t (.raw a) (.raw b) = zfC P op t (.raw a) (.raw b) := rfl
end Go.Proofs.YtckabcbfbpejkaaGreatDoor.Av
namespace Go.Proofs.YtckabcbfbpejkaaGreatDoor.Av
open Go
set_option linter.unusedSimpArgs false
set_option linter.unusedVariables false
set_option maxRecDepth 100000
set_option maxHeartbeats 2000000
set_option pp.maxSteps 300
end Go.Proofs.YtckabcbfbpejkaaGreatDoor.Av
namespace Go.Proofs.YtckabcbfbpejkaaGreatDoor.Av
open Go
set_option linter.unusedSimpArgs false
set_option linter.unusedVariables false
set_option maxRecDepth 100000
set_option maxHeartbeats 2000000
set_option pp.maxSteps 2500
def zj8 : List Lk → Pt → Option Pt
  | [], _ => none
  | l :: ls, p => if l.a = p then some l.b else if l.b = p then some l.a else zj8 ls p
end Go.Proofs.YtckabcbfbpejkaaGreatDoor.Av
namespace Go.Proofs.YtckabcbfbpejkaaGreatDoor.Av
open Go
set_option linter.unusedSimpArgs false
set_option linter.unusedVariables false
set_option maxRecDepth 100000
set_option maxHeartbeats 2000000
set_option pp.maxSteps 600
structure Tk where
  path : List Int
  out : Int
  last : Pt
deriving DecidableEq
def tkAV (t : Tk) (f : Bool) : AV := .agg [zaI t.path f, .raw (.int .i64 t.out), .raw (.int .i64 t.last.dev), .raw (.int .i64 t.last.port)]
end Go.Proofs.YtckabcbfbpejkaaGreatDoor.Av
namespace Go.Proofs.YtckabcbfbpejkaaGreatDoor.Av
open Go
set_option linter.unusedSimpArgs false
set_option linter.unusedVariables false
set_option maxRecDepth 100000
set_option maxHeartbeats 4000000
set_option pp.maxSteps 300
def zav (d a : Int) (acl : Bool) (r : Ru) : Bool := decide (r.dev = d) && (!decide (a < r.r.lo) && (!decide (r.r.hi < a) && ((decide (r.kind = 2) || decide (r.kind = 3)) == acl)))
def zdN (x m : Ru) : Bool := decide (m.prio < x.prio) || (decide (x.prio = m.prio) && decide (x.id < m.id))
theorem zhS (x m : Ru) : zcL x m < 0 ↔ zdN x m = true := by
  unfold zcL cmpI zdN
  simp only [Bool.or_eq_true, Bool.and_eq_true, decide_eq_true_eq]
  repeat' split
  all_goals omega
theorem ziR (z : List Ru) (x : Ru) : zau (z ++ [x]) = if z = [] then x else if zdN x (zau z) = true then x else zau z := by
  cases z with
  | nil => rfl
  | cons r l =>
    simp only [reduceCtorEq, if_false, List.cons_append, zau, List.foldl_append, List.foldl_cons, List.foldl_nil]
    by_cases h : zcL x (l.foldl (fun m x => if zcL x m < 0 then x else m) r) < 0
    · rw [if_pos h]; exact (if_pos ((zhS _ _).1 h)).symm
    · rw [if_neg h]; exact (if_neg (fun q => h ((zhS _ _).2 q))).symm
theorem pb1 : ∀ b1 b2 b3 b4 b5 acl : Bool, b4 = false → ¬ b5 = acl → (b1 && (!b2 && (!b3 && ((b4 || b5) == acl)))) = false := by decide
theorem pb2 : ∀ b1 b2 b3 b4 b5 acl : Bool, b4 = !false → acl = false → (b1 && (!b2 && (!b3 && ((b4 || b5) == acl)))) = false := by decide
theorem pb3 : ∀ b1 b2 b3 b4 b5 acl : Bool, b3 = !false → (b1 && (!b2 && (!b3 && ((b4 || b5) == acl)))) = false := by decide
theorem pb4 : ∀ b1 b2 b3 b4 b5 acl : Bool, b2 = !false → (b1 && (!b2 && (!b3 && ((b4 || b5) == acl)))) = false := by decide
theorem pb5 : ∀ b1 b2 b3 b4 b5 acl : Bool, (!b1) = !false → (b1 && (!b2 && (!b3 && ((b4 || b5) == acl)))) = false := by decide
theorem pb6 : ∀ b1 b2 b3 b4 b5 acl : Bool, b4 = false → (!b1) = false → b2 = false → b3 = false → b5 = acl → (b1 && (!b2 && (!b3 && ((b4 || b5) == acl)))) = true := by decide
theorem pb7 : ∀ b1 b2 b3 b4 b5 acl : Bool, b4 = !false → (!b1) = false → b2 = false → b3 = false → acl = true → (b1 && (!b2 && (!b3 && ((b4 || b5) == acl)))) = true := by decide
theorem pc1 : ∀ b6 b7 b8 : Bool, b6 = !false → (b6 || (b7 && b8)) = true := by decide
theorem pc2 : ∀ b6 b7 b8 : Bool, b7 = true → b8 = true → (b6 || (b7 && b8)) = true := by decide
theorem pc3 : ∀ b6 b7 b8 : Bool, b6 = false → b7 = !true → (b6 || (b7 && b8)) = false := by decide
theorem pc4 : ∀ b6 b7 b8 : Bool, b6 = false → b8 = false → (b6 || (b7 && b8)) = false := by decide
theorem zeK (l : List Ru) (f : Bool) (d a : Int) (acl : Bool) (hl : l.length < 2932031007403) :
    PCalls Tryz.prog 44 [za l f, .raw (.int .i64 d), .raw (.int .u32 a), .raw (.bool acl)] (.tup [zc (zau (l.filter (zav d a acl))), .raw (.bool (l.any (zav d a acl)))]) := by
  refine zD Tryz.func44 rfl (N := 83) rfl rfl (by simp) (by simp [noIds, zc]) fun σ => ?_
  have hz : setPart (zc ⟨0, 0, 0, 0, ⟨0, 0⟩, 0⟩) 0 [.raw (.int .i64 0), .raw (.int .i64 0), .raw (.int .i64 0), .raw (.int .i64 0), .raw (.int .u32 0), .raw (.int .u32 0), .raw (.int .i64 0)] = zc ⟨0, 0, 0, 0, ⟨0, 0⟩, 0⟩ := rfl
  have FF := za.eq_1; refine goB ?_; clear FF
  refine z1 (fun n A τ => Ext σ τ ∧ A 0 = za l f ∧ A 1 = .raw (.int .i64 d) ∧ A 2 = .raw (.int .u32 a) ∧ A 3 = .raw (.bool acl) ∧ A 8 = .rp ⟨8, σ.nx 8, 7⟩ 0 0 ∧ A 10 = .rp ⟨10, σ.nx 10, 7⟩ 0 0 ∧
    τ.m ⟨8, σ.nx 8, 7⟩ = some (.buf [zc ⟨0, 0, 0, 0, ⟨0, 0⟩, 0⟩]) ∧ ∃ (i : Nat) (q : List Ru), q = (l.take i).filter (zav d a acl) ∧ τ.m ⟨10, σ.nx 10, 7⟩ = some (.buf [zc (zau q)]) ∧
      A 12 = .raw (.int .i64 i) ∧ A 11 = .raw (.bool (!q.isEmpty)) ∧ i ≤ l.length ∧ n = l.length - i) l.length ?_ ?_
  · refine ⟨by simp (maxDischargeDepth := 30), by simp [za], by simp, by simp, by simp, by simp, by simp [St.new], by simp [St.new, zc], 0, [], by simp, by simp [St.new, zc, zau], by simp, by simp, by omega, by omega⟩
  rintro n A τ ⟨hE, a0, a1, a2, a3, a8, a10, m8, i, q, hq, m10, a12, a11, hi, rfl⟩ I1 hI1
  have f8 : σ.m ⟨8, σ.nx 8, 7⟩ = none := zu _ _ _
  have f10 : σ.m ⟨10, σ.nx 10, 7⟩ = none := zu _ _ _
  by_cases hlt : i < l.length
  · have hx : l[i]? = some l[i] := List.getElem?_eq_getElem hlt
    have w1 : IntKind.i64.wrap ((i : Int) + 1) = ((i + 1 : Nat) : Int) := by rw [zA (by omega) (by omega)]; omega
    have htk : (l.take (i + 1)).filter (zav d a acl) = q ++ if zav d a acl l[i] = true then [l[i]] else [] := by
      rw [List.take_add_one, hx, List.filter_append, hq]
      congr 1
      cases hb : zav d a acl l[i] <;> simp [hb]
    obtain ⟨m, hmm⟩ : ∃ m, zau q = m := ⟨_, rfl⟩
    rw [hmm] at m10
    obtain ⟨e', he⟩ : ∃ e', q.isEmpty = e' := ⟨_, rfl⟩
    rw [he] at a11
    have n8 : (⟨8, σ.nx 8, 7⟩ : Id) ≠ ⟨13, τ.nx 13, 7⟩ := by simp
    obtain ⟨b1, h1⟩ : ∃ b, decide (l[i].dev = d) = b := ⟨_, rfl⟩
    obtain ⟨b2, h2⟩ : ∃ b, decide (a < l[i].r.lo) = b := ⟨_, rfl⟩
    obtain ⟨b3, h3⟩ : ∃ b, decide (l[i].r.hi < a) = b := ⟨_, rfl⟩
    obtain ⟨b4, h4⟩ : ∃ b, decide (l[i].kind = 2) = b := ⟨_, rfl⟩
    obtain ⟨b5, h5⟩ : ∃ b, decide (l[i].kind = 3) = b := ⟨_, rfl⟩
    obtain ⟨b6, h6⟩ : ∃ b, decide (m.prio < l[i].prio) = b := ⟨_, rfl⟩
    obtain ⟨b7, h7⟩ : ∃ b, decide (l[i].prio = m.prio) = b := ⟨_, rfl⟩
    obtain ⟨b8, h8⟩ : ∃ b, decide (l[i].id < m.id) = b := ⟨_, rfl⟩
    have hp : zav d a acl l[i] = (b1 && (!b2 && (!b3 && ((b4 || b5) == acl)))) := by unfold zav; rw [h1, h2, h3, h4, h5]
    have hbt : zdN l[i] m = (b6 || (b7 && b8)) := by unfold zdN; rw [h6, h7, h8]
    have h1' : decide (¬ l[i].dev = d) = !b1 := by rw [← h1]; simp
    have fin : ∀ (q' : List Ru) (A' : zn) (τ' : St), Ext σ τ' → A' 0 = za l f → A' 1 = .raw (.int .i64 d) → A' 2 = .raw (.int .u32 a) → A' 3 = .raw (.bool acl) → A' 8 = .rp ⟨8, σ.nx 8, 7⟩ 0 0 → A' 10 = .rp ⟨10, σ.nx 10, 7⟩ 0 0 →
        τ'.m ⟨8, σ.nx 8, 7⟩ = some (.buf [zc ⟨0, 0, 0, 0, ⟨0, 0⟩, 0⟩]) → q' = (l.take (i + 1)).filter (zav d a acl) → τ'.m ⟨10, σ.nx 10, 7⟩ = some (.buf [zc (zau q')]) →
        A' 12 = .raw (.int .i64 ((i : Int) + 1)) → A' 11 = .raw (.bool (!q'.isEmpty)) → I1 A' τ' := fun q' A' τ' x1 x2 x3 x4 x5 x6 x7 x8 x9 x10 x11 x12 =>
      hI1 (l.length - (i + 1)) _ _ (by omega) ⟨x1, x2, x3, x4, x5, x6, x7, x8, i + 1, q', x9, x10, by simpa using x11, x12, by omega, rfl⟩
    (try ((first | with_reducible refine zy ?_ | with_reducible refine zG ?_ | with_reducible refine zH ?_); simp [za, a0, a1, a2, a3, a8, a10, a11, a12, hlt, hx, m8, m10, zg, zaD, zp, zbD, w1, h1, h2, h3, h4, h5, h6, h7, h8, h1'])); repeat' (first | ((first | refine zt ?_ | refine zw ?_ | refine dN (by decide +kernel) ?_ | (refine zh ?_ ?_ <;> (intro hg; simp only [hg])) | fail) <;> simp [za, a0, a1, a2, a3, a8, a10, a11, a12, hlt, hx, m8, m10, zg, zaD, zp, zbD, w1, h1, h2, h3, h4, h5, h6, h7, h8, h1']) | refine zv ?_ | refine zr ?_ | (refine zO ?_; simp only [zP]; try simp) | ((first | refine zI (by simp) ?_ | refine zF (by simp) (by simp) (by simp (maxDischargeDepth := 30) [za, a0, a1, a2, a3, a8, a10, a11, a12, hlt, hx, m8, m10, zg, zaD, zp, zbD, w1, h1, h2, h3, h4, h5, h6, h7, h8, h1']) ?_ | fail); simp) | (refine zm (fun hc => ?_) (fun hc => ?_) <;> try simp at hc) | fail)
    all_goals first
      | (have e : zav d a acl l[i] = false := by
           rw [hp]; first | exact pb1 _ _ _ _ _ _ ‹_› ‹_› | exact pb2 _ _ _ _ _ _ ‹_› ‹_› | exact pb3 _ _ _ _ _ _ ‹_› | exact pb4 _ _ _ _ _ _ ‹_› | exact pb5 _ _ _ _ _ _ ‹_›
         exact fin q _ _ (by simp [hE]) (by simp [a0]) (by simp [a1]) (by simp [a2]) (by simp [a3]) (by simp [a8]) (by simp [a10]) (by simp [St.new, m8]) (by rw [htk, e]; simp) (by simp [St.new, m10, hmm]) (by simp) (by simp [a11, he]))
      | (have e : zav d a acl l[i] = true := by
           rw [hp]; first | exact pb6 _ _ _ _ _ _ ‹_› ‹_› ‹_› ‹_› ‹_› | exact pb7 _ _ _ _ _ _ ‹_› ‹_› ‹_› ‹_› ‹_›
         first
         | (have hm' : zau (q ++ [l[i]]) = l[i] := by
              rw [ziR, hmm]
              first
              | rw [if_pos (by rw [← List.isEmpty_iff, he]; assumption)]
              | (rw [if_pos (c := zdN l[i] m = true) (by rw [hbt]; first | exact pc1 _ _ _ ‹_› | exact pc2 _ _ _ ‹_› ‹_›)]; split <;> rfl)
            exact fin (q ++ [l[i]]) _ _ (Ext.setF (by simp [hE]) f10) (by simp [a0]) (by simp [a1]) (by simp [a2]) (by simp [a3]) (by simp [a8]) (by simp [a10]) (by simp [St.set, St.new, m8]) (by rw [htk, e]; simp) (by simp [St.set, St.new, m10, hm']) (by simp) (by simp))
         | (have e0 : e' = false := ‹_›
            have hq0 : q ≠ [] := fun h => by rw [← List.isEmpty_iff, he, e0] at h; cases h
            have hm' : zau (q ++ [l[i]]) = m := by
              rw [ziR, hmm, if_neg hq0, if_neg]
              rw [hbt]; first | (rw [pc3 _ _ _ ‹_› ‹_›]; simp) | (rw [pc4 _ _ _ ‹_› ‹_›]; simp)
            exact fin (q ++ [l[i]]) _ _ (by simp [hE]) (by simp [a0]) (by simp [a1]) (by simp [a2]) (by simp [a3]) (by simp [a8]) (by simp [a10]) (by simp [St.new, m8]) (by rw [htk, e]; simp) (by simp [St.new, m10, hm']) (by simp) (by simp [a11, e0])))
  · have : i = l.length := by omega
    subst this
    rw [List.take_length] at hq
    subst hq
    have hem : (!(l.filter (zav d a acl)).isEmpty) = l.any (zav d a acl) := by
      rw [Bool.eq_iff_iff]; simp [List.isEmpty_iff, List.filter_eq_nil_iff]
    rw [hem] at a11
    have FF := fI za.eq_1 (fI @a0 (fI @a8 (fI @a10 (fI @a11 (fI @a12 (fI @m8 (fI @m10 (fI @zg (fI @zaD (fI @zp @zbD)))))))))); refine goC ?_; clear FF
    exact zF (.inr rfl) rfl (hE.setF f8) (by simp [a8, m8, St.set, zg]; exact zp _)
end Go.Proofs.YtckabcbfbpejkaaGreatDoor.Av
namespace Go.Proofs.YtckabcbfbpejkaaGreatDoor.Av
open Go
set_option linter.unusedSimpArgs false
set_option linter.unusedVariables false
set_option maxRecDepth 100000
set_option maxHeartbeats 2000000
set_option pp.maxSteps 300
def zcM (l : List Ru) (d a : Int) : Bool := l.any (zav d a true) && decide ((zau (l.filter (zav d a true))).kind = 3)
theorem zhT (l : List Ru) (f : Bool) (d a : Int) (hl : l.length < 2932031007403) : PCalls Tryz.prog 18 [za l f, .raw (.int .i64 d), .raw (.int .u32 a)] (.raw (.bool (zcM l d a))) := by
  have hf := zeK l f d a true hl
  unfold zcM
  obtain ⟨b, hb⟩ : ∃ b, l.any (zav d a true) = b := ⟨_, rfl⟩
  obtain ⟨m, hmm⟩ : ∃ m, zau (l.filter (zav d a true)) = m := ⟨_, rfl⟩
  rw [hb, hmm] at hf ⊢
  refine zD Tryz.func18 rfl (N := 22) rfl rfl (by simp) (by simp [noIds]) fun σ => ?_
  refine zj2 ?_
  refine PCalls.use hf ?_
  have FF := fI @zg (fI @zaD @zp); exact goA
theorem ziq (l : List Ru) (f : Bool) (d a : Int) (hl : l.length < 2932031007403) : PCalls Tryz.prog 15 [za l f, .raw (.int .i64 d), .raw (.int .u32 a)] (.tup [zc (zau (l.filter (zav d a false))), .raw (.bool (l.any (zav d a false)))]) := by
  have hf := zeK l f d a false hl
  obtain ⟨b, hb⟩ : ∃ b, l.any (zav d a false) = b := ⟨_, rfl⟩
  obtain ⟨m, hmm⟩ : ∃ m, zau (l.filter (zav d a false)) = m := ⟨_, rfl⟩
  rw [hb, hmm] at hf ⊢
  refine zD Tryz.func15 rfl (N := 14) rfl rfl (by simp) (by simp [noIds, zc]) fun σ => ?_
  have hps : ∀ (q : Ru) (m : Ru), setPart (zc q) 0 [.raw (.int .i64 m.id), .raw (.int .i64 m.dev), .raw (.int .i64 m.prio), .raw (.int .i64 m.kind), .raw (.int .u32 m.r.lo), .raw (.int .u32 m.r.hi), .raw (.int .i64 m.port)] = zc m := fun _ _ => rfl
  refine zj2 ?_
  refine PCalls.use hf ?_
  have FF := fI @zg (fI @zaD (fI @zp @hps)); refine goC ?_; clear FF
  refine zF (.inr rfl) rfl (by repeat (first | exact Ext.refl _ | refine zbL ?_ | refine Ext.setF ?_ (by simp [St.set, zu]))) ?_
  simp [St.set, St.new, zg]
  exact zp _
theorem zj9 {r : Ru} (h : 0 ≤ r.kind ∧ r.kind ≤ 3) (d a : Int) : zav d a true r = zex d a r := by
  unfold zav zex zeJ
  rw [Bool.eq_iff_iff]
  simp
  omega
theorem zka {r : Ru} (h : 0 ≤ r.kind ∧ r.kind ≤ 3) (d a : Int) : zav d a false r = zey d a r := by
  unfold zav zey zeJ
  rw [Bool.eq_iff_iff]
  simp
  omega
end Go.Proofs.YtckabcbfbpejkaaGreatDoor.Av
namespace Go.Proofs.YtckabcbfbpejkaaGreatDoor.Av
set_option linter.unusedSimpArgs false
set_option linter.unusedVariables false
inductive Tr where
  | nil
  | node (l : Tr) (k v : Int) (r : Tr)
namespace Tr
def ht : Tr → Int
  | nil => 0
  | node l _ _ r => 1 + max l.ht r.ht
def sz : Tr → Int
  | nil => 0
  | node l _ _ r => 1 + l.sz + r.sz
def toL : Tr → List (Int × Int)
  | nil => []
  | node l k v r => l.toL ++ (k, v) :: r.toL
theorem zei : ∀ t : Tr, 0 ≤ t.ht
  | nil => by simp [ht]
  | node l k v r => by have := zei l; have := zei r; simp only [ht]; omega
theorem sz_toL : ∀ t : Tr, t.sz = t.toL.length
  | nil => by simp [sz, toL]
  | node l k v r => by have := sz_toL l; have := sz_toL r; simp only [sz, toL, List.length_append, List.length_cons]; omega
def left : Tr → Tr
  | nil => nil
  | node l _ _ _ => l
def right : Tr → Tr
  | nil => nil
  | node _ _ _ r => r
def zez (l : Tr) (k v : Int) (r : Tr) : Tr :=
  if r.ht + 1 < l.ht then
    match l with
    | nil => nil
    | node ll lk lv lr => if lr.ht ≤ ll.ht then node ll lk lv (node lr k v r) else match lr with
      | nil => nil
      | node a mk mv b => node (node ll lk lv a) mk mv (node b k v r)
  else if l.ht + 1 < r.ht then
    match r with
    | nil => nil
    | node rl rk rv rr => if rl.ht ≤ rr.ht then node (node l k v rl) rk rv rr else match rl with
      | nil => nil
      | node a mk mv b => node (node l k v a) mk mv (node b rk rv rr)
  else node l k v r
theorem zb6 (l : Tr) (k v : Int) (r : Tr) : (zez l k v r).toL = l.toL ++ (k, v) :: r.toL := by
  unfold zez
  split
  · rename_i h
    cases l with
    | nil => have := zei r; simp only [ht] at h; omega
    | node ll lk lv lr =>
      simp only []
      split
      · simp [toL]
      · rename_i h2
        cases lr with
        | nil => have := zei ll; simp only [ht] at h2; omega
        | node a mk mv b => simp [toL]
  · split
    · rename_i h
      cases r with
      | nil => have := zei l; simp only [ht] at h; omega
      | node rl rk rv rr =>
        simp only []
        split
        · simp [toL]
        · rename_i h2
          cases rl with
          | nil => have := zei rr; simp only [ht] at h2; omega
          | node a mk mv b => simp [toL]
    · simp [toL]
def with_ : Tr → Int → Int → Tr
  | nil, k, v => node nil k v nil
  | node l k' v' r, k, v => if k < k' then zez (l.with_ k v) k' v' r else if k' < k then zez l k' v' (r.with_ k v) else node l k v r
def get : Tr → Int → Option Int
  | nil, _ => none
  | node l k' v' r, k => if k < k' then l.get k else if k' < k then r.get k else some v'
def least : Tr → (Int × Int) × Tr
  | nil => ((0, 0), nil)
  | node nil k v r => ((k, v), r)
  | node (node a b c d) k v r => ((node a b c d).least.1, zez (node a b c d).least.2 k v r)
def without : Tr → Int → Tr
  | nil, _ => nil
  | node l k' v' r, k => if k < k' then zez (l.without k) k' v' r else if k' < k then zez l k' v' (r.without k) else match r with
    | nil => l
    | node a b c d => zez l (node a b c d).least.1.1 (node a b c d).least.1.2 (node a b c d).least.2
def under : Tr → Int → Int
  | nil, _ => 0
  | node l k' _ r, k => if k' < k then 1 + l.sz + r.under k else l.under k
def at_ : Tr → Int → Option (Int × Int)
  | nil, _ => none
  | node l k v r, i => if i < l.sz then l.at_ i else if l.sz < i then r.at_ (i - (1 + l.sz)) else some (k, v)
def join (l : Tr) (k v : Int) (r : Tr) : Tr :=
  if r.ht + 1 < l.ht then
    match l with
    | nil => nil
    | node ll lk lv lr => zez ll lk lv (join lr k v r)
  else if l.ht + 1 < r.ht then
    match r with
    | nil => nil
    | node rl rk rv rr => zez (join l k v rl) rk rv rr
  else node l k v r
termination_by SizeOf.sizeOf l + SizeOf.sizeOf r
def cut : Tr → Int → Tr × Tr
  | nil, _ => (nil, nil)
  | node l k v r, b => if k < b then (join l k v (r.cut b).1, (r.cut b).2) else ((l.cut b).1, join (l.cut b).2 k v r)
theorem zkb (l : Tr) (k v : Int) (r : Tr) : (join l k v r).toL = l.toL ++ (k, v) :: r.toL := by
  fun_induction join l k v r with
  | case1 r h => have := zei r; simp only [ht] at h; omega
  | case2 r ll lk lv lr h ih => rw [zb6, ih]; simp [toL]
  | case3 l h1 h => have := zei l; simp only [ht] at h; omega
  | case4 l rl rk rv rr h1 h ih => rw [zb6, ih]; simp [toL]
  | case5 l r h1 h2 => simp [toL]
def Srt (l : List (Int × Int)) : Prop := l.Pairwise fun a b => a.1 < b.1
def Lt (b : Int) (l : List (Int × Int)) : Prop := ∀ e ∈ l, e.1 < b
def Gt (b : Int) (l : List (Int × Int)) : Prop := ∀ e ∈ l, b < e.1
theorem zff {l : Tr} {k v : Int} {r : Tr} : Srt (node l k v r).toL ↔ Srt l.toL ∧ Srt r.toL ∧ Lt k l.toL ∧ Gt k r.toL := by
  simp only [Srt, toL, Lt, Gt]
  rw [List.pairwise_append, List.pairwise_cons]
  constructor
  · rintro ⟨h1, ⟨h2, h3⟩, h4⟩
    exact ⟨h1, h3, fun e he => h4 e he (k, v) (by simp), fun e he => h2 e he⟩
  · rintro ⟨h1, h2, h3, h4⟩
    refine ⟨h1, ⟨fun e he => h4 e he, h2⟩, fun a ha b hb => ?_⟩
    rcases List.mem_cons.1 hb with rfl | hb
    · exact h3 a ha
    · have := h3 a ha; have := h4 b hb; omega
def put (l : List (Int × Int)) (k v : Int) : List (Int × Int) := l.filter (fun e => decide (e.1 < k)) ++ (k, v) :: l.filter (fun e => decide (k < e.1))
theorem zaV {p : Int × Int → Bool} {l : List (Int × Int)} (h : ∀ e ∈ l, p e = true) : l.filter p = l := List.filter_eq_self.2 h
theorem zcz {p : Int × Int → Bool} {l : List (Int × Int)} (h : ∀ e ∈ l, p e = false) : l.filter p = [] := List.filter_eq_nil_iff.2 fun e he => by simp [h e he]
theorem with_toL : ∀ (t : Tr) (k v : Int), Srt t.toL → (t.with_ k v).toL = put t.toL k v
  | nil, k, v, _ => by simp [with_, toL, put]
  | node l k' v' r, k, v, h => by
    obtain ⟨h1, h2, h3, h4⟩ := zff.1 h
    simp only [with_]
    split
    · rename_i hk
      rw [zb6, with_toL l k v h1]
      simp only [put, toL, List.filter_append, List.filter_cons]
      have e1 : r.toL.filter (fun e => decide (e.1 < k)) = [] := zcz fun e he => by have := h4 e he; simp; omega
      have e2 : r.toL.filter (fun e => decide (k < e.1)) = r.toL := zaV fun e he => by have := h4 e he; simp; omega
      have e3 : ¬ k' < k := by omega
      simp [e1, e2, hk, e3]
    · split
      · rename_i hk0 hk
        rw [zb6, with_toL r k v h2]
        simp only [put, toL, List.filter_append, List.filter_cons]
        have e1 : l.toL.filter (fun e => decide (k < e.1)) = [] := zcz fun e he => by have := h3 e he; simp; omega
        have e2 : l.toL.filter (fun e => decide (e.1 < k)) = l.toL := zaV fun e he => by have := h3 e he; simp; omega
        simp [e1, e2, hk, hk0]
      · have : k = k' := by omega
        subst this
        simp only [put, toL, List.filter_append, List.filter_cons]
        have e1 : l.toL.filter (fun e => decide (k < e.1)) = [] := zcz fun e he => by have := h3 e he; simp; omega
        have e2 : l.toL.filter (fun e => decide (e.1 < k)) = l.toL := zaV fun e he => by have := h3 e he; simp; omega
        have e3 : r.toL.filter (fun e => decide (e.1 < k)) = [] := zcz fun e he => by have := h4 e he; simp; omega
        have e4 : r.toL.filter (fun e => decide (k < e.1)) = r.toL := zaV fun e he => by have := h4 e he; simp; omega
        simp [e1, e2, e3, e4]
theorem put_srt {l : List (Int × Int)} (h : Srt l) (k v : Int) : Srt (put l k v) := by
  unfold Srt put
  rw [List.pairwise_append, List.pairwise_cons]
  refine ⟨h.filter _, ⟨fun e he => by simpa using (List.mem_filter.1 he).2, h.filter _⟩, fun a ha b hb => ?_⟩
  have h1 := (List.mem_filter.1 ha).2
  simp only [decide_eq_true_eq] at h1
  rcases List.mem_cons.1 hb with rfl | hb
  · exact h1
  · have h2 := (List.mem_filter.1 hb).2
    simp only [decide_eq_true_eq] at h2
    omega
theorem get_eq : ∀ (t : Tr) (k : Int), Srt t.toL → t.get k = (t.toL.find? fun e => decide (e.1 = k)).map (·.2)
  | nil, k, _ => by simp [get, toL]
  | node l k' v' r, k, h => by
    obtain ⟨h1, h2, h3, h4⟩ := zff.1 h
    simp only [get, toL, List.find?_append, List.find?_cons]
    split
    · rename_i hk
      have e1 : r.toL.find? (fun e => decide (e.1 = k)) = none := List.find?_eq_none.2 fun e he => by have := h4 e he; simp; omega
      have e2 : decide (k' = k) = false := by simp; omega
      rw [get_eq l k h1, e1, e2]; simp
    · split
      · rename_i hk0 hk
        have e1 : l.toL.find? (fun e => decide (e.1 = k)) = none := List.find?_eq_none.2 fun e he => by have := h3 e he; simp; omega
        have e2 : decide (k' = k) = false := by simp; omega
        rw [get_eq r k h2, e1, e2]; simp
      · have : k' = k := by omega
        subst this
        have e1 : l.toL.find? (fun e => decide (e.1 = k')) = none := List.find?_eq_none.2 fun e he => by have := h3 e he; simp; omega
        rw [e1]; simp
theorem get_none {t : Tr} (h : Srt t.toL) (k : Int) : t.get k = none ↔ k ∉ t.toL.map (·.1) := by
  rw [get_eq t k h]
  simp only [Option.map_eq_none_iff, List.find?_eq_none, decide_eq_true_eq, List.mem_map, not_exists, not_and]
theorem get_with {t : Tr} (h : Srt t.toL) (k v k2 : Int) : (t.with_ k v).get k2 = if k2 = k then some v else t.get k2 := by
  have hs : Srt (t.with_ k v).toL := by rw [with_toL t k v h]; exact put_srt h k v
  rw [get_eq _ _ hs, with_toL t k v h, get_eq _ _ h]
  simp only [put, List.find?_append, List.find?_cons]
  by_cases e : k2 = k
  · subst e
    have e1 : (t.toL.filter fun e => decide (e.1 < k2)).find? (fun e => decide (e.1 = k2)) = none := List.find?_eq_none.2 fun e he => by have := (List.mem_filter.1 he).2; simp at this ⊢; omega
    rw [e1]; simp
  · rw [if_neg e]
    have e2 : decide (k = k2) = false := by simp; omega
    rw [e2]
    simp only [Bool.false_eq_true, if_false, List.find?_filter]
    congr 1
    have : ∀ l : List (Int × Int), Srt l → (l.find? fun a => decide (a.1 < k) && decide (a.1 = k2)).or (l.find? fun a => decide (k < a.1) && decide (a.1 = k2)) = l.find? fun a => decide (a.1 = k2) := by
      intro l hl
      induction l with
      | nil => rfl
      | cons a l ih =>
        have hl' := List.pairwise_cons.1 hl
        simp only [List.find?_cons]
        by_cases q : a.1 = k2
        · by_cases q2 : a.1 < k
          · simp [q, q2]; rw [q] at q2; simp [q2]
          · have q3 : k < a.1 := by omega
            have q4 : l.find? (fun a => decide (a.1 < k) && decide (a.1 = k2)) = none := List.find?_eq_none.2 fun e he => by have := hl'.1 e he; simp; omega
            rw [q4]
            simp [q, q2]
            rw [q] at q2 q3; simp [q2, q3]
        · simp [q]; exact ih hl'.2
    simp only [Bool.decide_and, Bool.decide_eq_true]
    exact this _ h
theorem zir : ∀ (t : Tr) (b : Int), Srt t.toL → (t.cut b).1.toL = t.toL.filter (fun e => decide (e.1 < b)) ∧ (t.cut b).2.toL = t.toL.filter (fun e => decide (b ≤ e.1))
  | nil, b, _ => by simp [cut, toL]
  | node l k v r, b, h => by
    obtain ⟨h1, h2, h3, h4⟩ := zff.1 h
    simp only [cut, toL, List.filter_append, List.filter_cons]
    split
    · rename_i hk
      obtain ⟨i1, i2⟩ := zir r b h2
      simp only [zkb, i1, i2]
      have e1 : l.toL.filter (fun e => decide (e.1 < b)) = l.toL := zaV fun e he => by have := h3 e he; simp; omega
      have e2 : l.toL.filter (fun e => decide (b ≤ e.1)) = [] := zcz fun e he => by have := h3 e he; simp; omega
      have e3 : ¬ b ≤ k := by omega
      simp [e1, e2, e3, hk]
    · rename_i hk
      obtain ⟨i1, i2⟩ := zir l b h1
      simp only [zkb, i1, i2]
      have e1 : r.toL.filter (fun e => decide (b ≤ e.1)) = r.toL := zaV fun e he => by have := h4 e he; simp; omega
      have e2 : r.toL.filter (fun e => decide (e.1 < b)) = [] := zcz fun e he => by have := h4 e he; simp; omega
      have e3 : b ≤ k := by omega
      simp [e1, e2, e3, hk]
theorem cut_len (t : Tr) (b : Int) (h : Srt t.toL) : (t.cut b).1.sz = (t.toL.countP fun e => decide (e.1 < b) : Nat) := by
  rw [sz_toL, (zir t b h).1, List.countP_eq_length_filter]
theorem ziS : ∀ (t : Tr), t ≠ nil → t.toL = t.least.1 :: t.least.2.toL
  | nil, h => absurd rfl h
  | node nil k v r, _ => by simp [least, toL]
  | node (node a b c d) k v r, _ => by
    have := ziS (node a b c d) (by simp)
    simp only [least, zb6]
    rw [toL, this]; simp
theorem without_toL : ∀ (t : Tr) (k : Int), Srt t.toL → (t.without k).toL = t.toL.filter fun e => !decide (e.1 = k)
  | nil, k, _ => by simp [without, toL]
  | node l k' v' r, k, h => by
    obtain ⟨h1, h2, h3, h4⟩ := zff.1 h
    simp only [without]
    split
    · rename_i hk
      rw [zb6, without_toL l k h1]
      simp only [toL, List.filter_append, List.filter_cons]
      have e1 : r.toL.filter (fun e => !decide (e.1 = k)) = r.toL := zaV fun e he => by have := h4 e he; simp; omega
      have e2 : ¬ k' = k := by omega
      simp [e1, e2]
    · split
      · rename_i hk0 hk
        rw [zb6, without_toL r k h2]
        simp only [toL, List.filter_append, List.filter_cons]
        have e1 : l.toL.filter (fun e => !decide (e.1 = k)) = l.toL := zaV fun e he => by have := h3 e he; simp; omega
        have e2 : ¬ k' = k := by omega
        simp [e1, e2]
      · have : k' = k := by omega
        subst this
        have e1 : l.toL.filter (fun e => !decide (e.1 = k')) = l.toL := zaV fun e he => by have := h3 e he; simp; omega
        have e2 : r.toL.filter (fun e => !decide (e.1 = k')) = r.toL := zaV fun e he => by have := h4 e he; simp; omega
        cases r with
        | nil =>
          simp only [toL, List.filter_append, List.filter_cons]
          simp [e1]
        | node a b c d =>
          simp only [zb6]
          have h5 := ziS (node a b c d) (by simp)
          rw [toL, List.filter_append, List.filter_cons, e1, e2]
          simp only [decide_true, Bool.not_true, Bool.false_eq_true, if_false]
          rw [h5]
end Tr
end Go.Proofs.YtckabcbfbpejkaaGreatDoor.Av
namespace Go.Proofs.YtckabcbfbpejkaaGreatDoor.Av
open Go
set_option linter.unusedSimpArgs false
set_option linter.unusedVariables false
set_option maxRecDepth 100000
set_option maxHeartbeats 2000000
set_option pp.maxSteps 300
def zbj (n : Nw) (d a : Int) : Int × Pt :=
  if zcy n.rules d a = true then (2, ⟨0, 0⟩) else if zdl n.rules d a = false then (0, ⟨0, 0⟩) else if (zb5 n.rules d a).kind = 1 then (1, ⟨0, 0⟩)
  else if (zhR n.t ⟨d, (zb5 n.rules d a).port⟩).isSome = true then (4, ⟨d, (zb5 n.rules d a).port⟩) else (3, ⟨d, (zb5 n.rules d a).port⟩)
end Go.Proofs.YtckabcbfbpejkaaGreatDoor.Av
namespace Go.Proofs.YtckabcbfbpejkaaGreatDoor.Av
open Go
set_option linter.unusedSimpArgs false
set_option linter.unusedVariables false
set_option maxRecDepth 100000
set_option maxHeartbeats 2000000
set_option pp.maxSteps 600
def Tr.av : Tr → AV
  | .nil => .raw (.pointer none)
  | .node l k v r => .pp [.raw (.int .u64 k), .raw (.int .i64 v), l.av, r.av, .raw (.int .i64 (Tr.node l k v r).ht), .raw (.int .i64 (Tr.node l k v r).sz)] 0
def zrB (k v : Int) : AV := .agg [.raw (.int .u64 k), .raw (.int .i64 v)]
@[simp] theorem zsR : Tr.nil.av = .raw (.pointer none) := rfl
@[simp] theorem zrC (k v : Int) : (zrB k v).cells = [.raw (.int .u64 k), .raw (.int .i64 v)] := rfl
@[simp] theorem zsc (l : List Int) (f : Bool) : cellOK (zaI l f) = true := rfl
@[simp] theorem zrD (l : List Lk) (f : Bool) : cellOK (zil l f) = true := rfl
@[simp] theorem zrE (l : List Ru) (f : Bool) : cellOK (za l f) = true := rfl
end Go.Proofs.YtckabcbfbpejkaaGreatDoor.Av
namespace Go.Proofs.YtckabcbfbpejkaaGreatDoor.Av
open Go
set_option linter.unusedSimpArgs false
set_option linter.unusedVariables false
set_option maxRecDepth 100000
set_option maxHeartbeats 4000000
set_option pp.maxSteps 600
def trP (t : Tr) : AV := .pp [t.av] 0
@[simp] theorem zq1 (t : Tr) : (trP t).cells = [trP t] := rfl
@[simp] theorem zsS (t : Tr) : cellOK (trP t) = true := rfl
@[simp] theorem zq2 (t : Tr) : (trP t).flat1 = true := rfl
@[simp] theorem zqr (m m' : zL) (t : Tr) : zE m' m (trP t) = trP t := rfl
end Go.Proofs.YtckabcbfbpejkaaGreatDoor.Av
namespace Go.Proofs.YtckabcbfbpejkaaGreatDoor.Av
open Go
set_option linter.unusedSimpArgs false
set_option linter.unusedVariables false
set_option maxRecDepth 100000
set_option maxHeartbeats 4000000
set_option pp.maxSteps 600
def Tr.atI (t : Tr) (i : Int) : Option (Int × Int) := if 0 ≤ i then t.at_ i else none
end Go.Proofs.YtckabcbfbpejkaaGreatDoor.Av
namespace Go.Proofs.YtckabcbfbpejkaaGreatDoor.Av
open Go
set_option linter.unusedSimpArgs false
set_option linter.unusedVariables false
set_option maxRecDepth 100000
set_option maxHeartbeats 4000000
set_option pp.maxSteps 600
end Go.Proofs.YtckabcbfbpejkaaGreatDoor.Av
namespace Go.Proofs.YtckabcbfbpejkaaGreatDoor.Av
open Go
set_option linter.unusedSimpArgs false
set_option linter.unusedVariables false
set_option maxRecDepth 100000
set_option maxHeartbeats 4000000
set_option pp.maxSteps 600
structure Tab where
  b : Tr
  g : Tr
  n : Int
def zkc (T : Tab) : AV := .pp [trP T.b, trP T.g, .raw (.int .i64 T.n)] 0
def tabO : Option Tab → AV
  | none => .raw (.pointer none)
  | some T => zkc T
@[simp] theorem zsd (T : Tab) : cellOK (zkc T) = true := rfl
@[simp] theorem zqs (T : Tab) : (zkc T).cells = [zkc T] := rfl
@[simp] theorem zqt (T : Tab) : (zkc T).flat1 = true := rfl
def zbh : Tab := ⟨.node .nil 0 1 .nil, .nil, 0⟩
def zdC (t : Tr) (k by_ : Int) : Tr := if (t.get k).getD 0 + by_ = 0 then t.without k else t.with_ k ((t.get k).getD 0 + by_)
structure MoreOK (t : Tr) (k by_ : Int) : Prop where
  sz : t.sz < 2 ^ 40
  lo : -2 ^ 40 < (t.get k).getD 0 + by_
  hi : (t.get k).getD 0 + by_ < 2 ^ 40
  drop : (t.get k).getD 0 + by_ = 0 → t.get k ≠ none
  room : t.get k = none → t.sz < 1024
structure RgOK (r : Rg) : Prop where
  lo0 : 0 ≤ r.lo
  lo1 : r.lo < 4294967296
  hi0 : 0 ≤ r.hi
  hi1 : r.hi < 4294967296
def zis (r : Rg) : Int := r.lo * 4294967296 + r.hi
end Go.Proofs.YtckabcbfbpejkaaGreatDoor.Av
namespace Go.Proofs.YtckabcbfbpejkaaGreatDoor.Av
open Go
set_option linter.unusedSimpArgs false
set_option linter.unusedVariables false
set_option maxRecDepth 100000
set_option maxHeartbeats 4000000
set_option pp.maxSteps 600
def zrF (x : Int) : AV := .raw (.int .u64 x)
def zus (l : List Int) : AV := .sl 1 (l.map zrF) false
def zcN (r : Rg) : List Int := if r.hi < 4294967295 then [r.lo, r.hi + 1] else [r.lo]
def Tab.with_ (T : Tab) (r : Rg) (by_ : Int) : Tab := ⟨(zcN r).foldl (fun b e => zdC b e by_) T.b, zdC T.g (zis r) by_, T.n + by_⟩
structure WithOK (T : Tab) (r : Rg) (by_ : Int) : Prop where
  rg : RgOK r
  n0 : -2 ^ 40 < T.n + by_
  n1 : T.n + by_ < 2 ^ 40
  key : MoreOK T.g (zis r) by_
  ends : ∀ (i : Nat) (e : Int), (zcN r)[i]? = some e → MoreOK (((zcN r).take i).foldl (fun b e => zdC b e by_) T.b) e by_
def zo2 (T : Option Tab) (r : Rg) : Option Tab × Int := if r.hi < r.lo then (none, 51) else if 500 ≤ (T.getD zbh).n then (none, 41) else (some ((T.getD zbh).with_ r 1), 0)
def zrG (T : Option Tab) (r : Rg) : Int := ((T.getD zbh).g.get (zis r)).getD 0
def zut (T : Option Tab) (r : Rg) : Option Tab × Int := if zrG T r = 0 then (none, 51) else (some ((T.getD zbh).with_ r (-1)), 0)
def zuu (T : Option Tab) (i : Int) : Option Rg := ((T.getD zbh).b.atI i).map fun p => ⟨IntKind.u32.wrap p.1, IntKind.u32.wrap (match (T.getD zbh).b.atI (i + 1) with | some q => IntKind.u64.wrap (q.1 - 1) | none => 4294967295)⟩
def zo3 (T : Tab) (b : Int) : Int := (T.b.cut b).1.sz
def ofT (T : Option Tab) (a : Int) : Int := zo3 (T.getD zbh) (a + 1) - 1
end Go.Proofs.YtckabcbfbpejkaaGreatDoor.Av
namespace Go.Proofs.YtckabcbfbpejkaaGreatDoor.Av
set_option linter.unusedSimpArgs false
set_option linter.unusedVariables false
theorem zg6 {α : Type} [DecidableEq α] : ∀ {l m : List α}, l.Nodup → (∀ x ∈ l, x ∈ m) → l.length ≤ m.length
  | [], _, _, _ => by simp
  | a :: l, m, h, hs => by
    have h' := List.nodup_cons.1 h
    have := zg6 (m := m.erase a) h'.2 fun x hx => by
      have hne : x ≠ a := fun e => h'.1 (e ▸ hx)
      exact (List.mem_erase_of_ne hne).2 (hs x (by simp [hx]))
    have hl := List.length_erase_of_mem (hs a (by simp))
    have hpos : 0 < m.length := List.length_pos_of_mem (hs a (by simp))
    simp only [List.length_cons]
    omega
def zdq (n : Nat) : Option Int := if n = 0 then none else some n
theorem zmG (n : Nat) : (zdq n).getD 0 = n := by
  unfold zdq
  split
  · rename_i h; subst h; rfl
  · rfl
theorem zmH (n : Nat) : zdq n = none ↔ n = 0 := by
  unfold zdq
  split
  · rename_i h; simp [h]
  · rename_i h; simp [h]
structure KeyRep (t : Tr) (l : List Int) : Prop where
  srt : Tr.Srt t.toL
  get : ∀ k, t.get k = zdq (l.count k)
theorem KeyRep.mem {t : Tr} {l : List Int} (h : KeyRep t l) (k : Int) : k ∈ t.toL.map (·.1) ↔ k ∈ l := by
  have := Tr.get_none h.srt k
  rw [h.get, zmH, List.count_eq_zero] at this
  constructor
  · intro hk
    apply Classical.byContradiction
    intro hn
    exact this.1 hn hk
  · intro hk
    apply Classical.byContradiction
    intro hn
    exact this.2 hn hk
theorem Tr.Srt.nodup {l : List (Int × Int)} (h : Tr.Srt l) : (l.map (·.1)).Nodup := by
  unfold Tr.Srt at h
  unfold List.Nodup
  rw [List.pairwise_map]
  exact h.imp fun hab => by omega
theorem KeyRep.sz {t : Tr} {l : List Int} (h : KeyRep t l) : t.sz ≤ l.length := by
  have := zg6 h.srt.nodup fun x hx => (h.mem x).1 hx
  rw [Tr.sz_toL]
  simp at this
  omega
theorem KeyRep.perm {t : Tr} {l m : List Int} (h : KeyRep t l) (p : l.Perm m) : KeyRep t m := ⟨h.srt, fun k => by rw [h.get, p.count_eq]⟩
theorem KeyRep.more {t : Tr} {l : List Int} (h : KeyRep t l) (k : Int) (hl : l.length < 1024) : MoreOK t k 1 ∧ KeyRep (zdC t k 1) (k :: l) := by
  have hs := h.sz
  have hc := List.count_le_length (a := k) (l := l)
  have hg : (t.get k).getD 0 = (l.count k : Nat) := by rw [h.get, zmG]
  have hne : ¬ (t.get k).getD 0 + 1 = 0 := by omega
  refine ⟨⟨by omega, by omega, by omega, fun e => absurd e hne, fun _ => by omega⟩, ?_⟩
  unfold zdC
  rw [if_neg hne]
  refine ⟨by rw [Tr.with_toL t _ _ h.srt]; exact Tr.put_srt h.srt _ _, fun k2 => ?_⟩
  rw [Tr.get_with h.srt, List.count_cons, hg]
  by_cases e : k2 = k
  · subst e
    rw [if_pos rfl]
    unfold zdq
    simp
  · rw [if_neg e, h.get]
    have : (k == k2) = false := by simp; omega
    simp [this]
theorem Tr.get_without {t : Tr} (h : Tr.Srt t.toL) (k k2 : Int) : (t.without k).get k2 = if k2 = k then none else t.get k2 := by
  have hs : Tr.Srt (t.without k).toL := by rw [Tr.without_toL t k h]; exact h.filter _
  rw [Tr.get_eq _ _ hs, Tr.without_toL t k h, Tr.get_eq _ _ h, List.find?_filter]
  by_cases e : k2 = k
  · subst e
    rw [if_pos rfl]
    have : t.toL.find? (fun a => decide ((!decide (a.1 = k2)) = true ∧ decide (a.1 = k2) = true)) = none := List.find?_eq_none.2 fun e he => by simp
    rw [this]; rfl
  · rw [if_neg e]
    congr 2
    funext a
    by_cases q : a.1 = k2
    · have : ¬ a.1 = k := by omega
      simp [q]; omega
    · simp [q]
theorem KeyRep.less {t : Tr} {l : List Int} {k : Int} (h : KeyRep t (k :: l)) (hl : l.length < 2 ^ 30) : MoreOK t k (-1) ∧ KeyRep (zdC t k (-1)) l := by
  have hs := h.sz
  have hc := List.count_le_length (a := k) (l := l)
  have hg0 : t.get k = some ((l.count k : Nat) + 1) := by
    rw [h.get, List.count_cons_self]; unfold zdq; simp
  have hg : (t.get k).getD 0 = (l.count k : Nat) + 1 := by rw [hg0]; rfl
  simp only [List.length_cons] at hs
  refine ⟨⟨by omega, by omega, by omega, fun _ => by simp [hg0], fun e => by simp [hg0] at e⟩, ?_⟩
  unfold zdC
  rw [hg]
  split
  · rename_i h0
    refine ⟨by rw [Tr.without_toL t k h.srt]; exact h.srt.filter _, fun k2 => ?_⟩
    rw [Tr.get_without h.srt, h.get, List.count_cons]
    by_cases e : k2 = k
    · subst e
      rw [if_pos rfl]
      have : l.count k2 = 0 := by omega
      rw [this]; rfl
    · rw [if_neg e]
      have : (k == k2) = false := by simp; omega
      simp [this]
  · rename_i h0
    refine ⟨by rw [Tr.with_toL t _ _ h.srt]; exact Tr.put_srt h.srt _ _, fun k2 => ?_⟩
    rw [Tr.get_with h.srt, h.get, List.count_cons]
    by_cases e : k2 = k
    · subst e
      rw [if_pos rfl]
      have : ¬ l.count k2 = 0 := by omega
      unfold zdq
      rw [if_neg this]
      congr 1; omega
    · rw [if_neg e]
      have : (k == k2) = false := by simp; omega
      simp [this]
def zdD (L : List Rg) : List Int := L.flatMap zcN
structure TabRep (T : Tab) (L : List Rg) : Prop where
  b : KeyRep T.b (0 :: zdD L)
  g : KeyRep T.g (L.map zis)
  n : T.n = L.length
  ok : ∀ r ∈ L, RgOK r
theorem zoa : TabRep zbh [] where
  b := ⟨by simp [zbh, Tr.toL, Tr.Srt], fun k => by
    simp only [zbh, Tr.get, zdD, List.flatMap_nil]
    by_cases h1 : k < 0
    · have : ((0 : Int) == k) = false := by simp; omega
      simp [h1, List.count_cons, this, zdq]
    · by_cases h2 : 0 < k
      · have : ((0 : Int) == k) = false := by simp; omega
        simp [h1, h2, List.count_cons, this, zdq]
      · have : k = 0 := by omega
        subst this; simp [zdq]⟩
  g := ⟨by simp [zbh, Tr.toL, Tr.Srt], fun k => by simp [zbh, Tr.get, zdq]⟩
  n := rfl
  ok := by simp
theorem ziU (r : Rg) : (zcN r).length ≤ 2 := by unfold zcN; split <;> simp
theorem zmI (L : List Rg) : (zdD L).length ≤ 2 * L.length := by
  induction L with
  | nil => simp [zdD]
  | cons r L ih =>
    have := ziU r
    simp only [zdD, List.flatMap_cons, List.length_append, List.length_cons] at ih ⊢
    omega
theorem ziV : ∀ (E : List Int) {t : Tr} {l : List Int}, KeyRep t l → l.length + E.length < 1024 →
    KeyRep (E.foldl (fun b e => zdC b e 1) t) (E ++ l) ∧ ∀ (i : Nat) (e : Int), E[i]? = some e → MoreOK ((E.take i).foldl (fun b e => zdC b e 1) t) e 1
  | [], t, l, h, _ => ⟨h, fun i e he => by simp at he⟩
  | x :: E, t, l, h, hl => by
    simp only [List.length_cons] at hl
    obtain ⟨h1, h2⟩ := h.more x (by omega)
    obtain ⟨h3, h4⟩ := ziV E h2 (by simp only [List.length_cons]; omega)
    refine ⟨h3.perm ?_, fun i e he => ?_⟩
    · exact List.perm_middle
    · cases i with
      | zero => simp only [List.getElem?_cons_zero, Option.some.injEq] at he; subst he; exact h1
      | succ i => exact h4 i e (by simpa using he)
theorem zle {T : Tab} {L : List Rg} (h : TabRep T L) {r : Rg} (hr : RgOK r) (hl : L.length < 500) : WithOK T r 1 ∧ TabRep (T.with_ r 1) (r :: L) := by
  have he := zmI L
  have hr2 := ziU r
  obtain ⟨g1, g2⟩ := h.g.more (zis r) (by simp only [List.length_map]; omega)
  obtain ⟨b1, b2⟩ := ziV (zcN r) h.b (by simp only [List.length_cons]; omega)
  have hn := h.n
  refine ⟨⟨hr, by omega, by omega, g1, b2⟩, ⟨?_, g2, ?_, ?_⟩⟩
  · refine b1.perm ?_
    simp only [zdD, List.flatMap_cons]
    exact List.perm_middle
  · show T.n + 1 = _
    simp only [List.length_cons]; omega
  · intro x hx
    rcases List.mem_cons.1 hx with rfl | hx
    · exact hr
    · exact h.ok x hx
theorem TabRep.perm {T : Tab} {L M : List Rg} (h : TabRep T L) (p : L.Perm M) : TabRep T M where
  b := h.b.perm ((p.flatMap_right zcN).cons 0)
  g := h.g.perm (p.map zis)
  n := by rw [h.n, p.length_eq]
  ok := fun r hr => h.ok r (p.mem_iff.2 hr)
structure Cuts (c : List Int) (L : List Rg) : Prop where
  srt : c.Pairwise (· < ·)
  mem : ∀ x, x ∈ c ↔ x = 0 ∨ ∃ r ∈ L, x ∈ zcN r
theorem zgG : ∀ {c d : List Int}, c.Pairwise (· < ·) → d.Pairwise (· < ·) → (∀ x, x ∈ c ↔ x ∈ d) → c = d
  | [], [], _, _, _ => rfl
  | [], y :: d, _, _, h => by have := (h y).2 (by simp); simp at this
  | x :: c, [], _, _, h => by have := (h x).1 (by simp); simp at this
  | x :: c, y :: d, hc, hd, h => by
    obtain ⟨h1, h2⟩ := List.pairwise_cons.1 hc
    obtain ⟨h3, h4⟩ := List.pairwise_cons.1 hd
    have hxy : x = y := by
      rcases List.mem_cons.1 ((h x).1 (by simp)) with e | e
      · exact e
      · rcases List.mem_cons.1 ((h y).2 (by simp)) with e2 | e2
        · exact e2.symm
        · have := h1 y e2; have := h3 x e; omega
    subst hxy
    congr 1
    refine zgG h2 h4 fun z => ?_
    constructor
    · intro hz
      rcases List.mem_cons.1 ((h z).1 (by simp [hz])) with e | e
      · subst e; have := h1 z hz; omega
      · exact e
    · intro hz
      rcases List.mem_cons.1 ((h z).2 (by simp [hz])) with e | e
      · subst e; have := h3 z hz; omega
      · exact e
def zuv (T : Tab) : List Int := T.b.toL.map (·.1)
theorem zmJ {r : Rg} (hr : RgOK r) {x : Int} (hx : x ∈ zcN r) : 0 ≤ x ∧ x < 4294967296 := by
  obtain ⟨a1, a2, a3, a4⟩ := hr
  unfold zcN at hx
  split at hx
  · simp only [List.mem_cons, List.not_mem_nil, or_false] at hx; omega
  · simp only [List.mem_cons, List.not_mem_nil, or_false] at hx; omega
theorem Cuts.range {c : List Int} {L : List Rg} (h : Cuts c L) (ok : ∀ r ∈ L, RgOK r) {x : Int} (hx : x ∈ c) : 0 ≤ x ∧ x < 4294967296 := by
  rcases (h.mem x).1 hx with rfl | ⟨r, hr, hx⟩
  · omega
  · exact zmJ (ok r hr) hx
def zmK : List Int → List Rg
  | [] => []
  | [x] => [⟨x, 4294967295⟩]
  | x :: y :: l => ⟨x, y - 1⟩ :: zmK (y :: l)
def zo4 (r a : Rg) : Option Rg := if max a.lo r.lo ≤ min a.hi r.hi then some ⟨max a.lo r.lo, min a.hi r.hi⟩ else none
def zrH (c : List Int) (r : Rg) : List Rg := (zmK c).filterMap (zo4 r)
end Go.Proofs.YtckabcbfbpejkaaGreatDoor.Av
namespace Go.Proofs.YtckabcbfbpejkaaGreatDoor.Av
set_option linter.unusedSimpArgs false
set_option linter.unusedVariables false
def zdO (n : Nw) (p : Pt) : Int := ((zhR n.t p).getD ⟨0, 0⟩).dev
def zgk (n : Nw) (a : Int) : Nat → Int → List Int → Tk
  | 0, _, p => ⟨p, 4, ⟨0, 0⟩⟩
  | f + 1, d, p => if d ∈ p then ⟨p ++ [d], 4, ⟨0, 0⟩⟩ else if (zbj n d a).1 = 4 then zgk n a f (zdO n (zbj n d a).2) (p ++ [d]) else ⟨p ++ [d], (zbj n d a).1, (zbj n d a).2⟩
def zfg (n : Nw) (d : Int) : List Int := d :: n.t.links.flatMap fun l => [l.a.dev, l.b.dev]
theorem zmL (n : Nw) (d : Int) : (zfg n d).length = 1 + 2 * n.t.links.length := by
  unfold zfg
  generalize n.t.links = L
  induction L with
  | nil => rfl
  | cons l L ih => simp only [List.flatMap_cons, List.length_cons, List.length_append, List.length_nil] at ih ⊢; omega
def zhU (n : Nw) (d a : Int) : Tk := zgk n a (2 + 2 * n.t.links.length) d []
theorem zlV (L : List Lk) : ∀ e ∈ zlU L, ∃ l ∈ L, e.2 = l.a ∨ e.2 = l.b := by
  have : ∀ (L M : List Lk) (m : List (Pt × Pt)), (∀ e ∈ m, ∃ l ∈ M, e.2 = l.a ∨ e.2 = l.b) → ∀ e ∈ L.foldl (fun m l => upd (upd m l.a l.b) l.b l.a) m, ∃ l ∈ M ++ L, e.2 = l.a ∨ e.2 = l.b := by
    intro L
    induction L with
    | nil => intro M m h e he; simpa using h e he
    | cons l L ih =>
      intro M m h e he
      rw [List.foldl_cons] at he
      have := ih (M ++ [l]) (upd (upd m l.a l.b) l.b l.a) ?_ e he
      · simpa using this
      · intro e he
        unfold upd at he
        rcases List.mem_append.1 he with he | he
        · rcases List.mem_append.1 (List.mem_filter.1 he).1 with he | he
          · obtain ⟨k, hk, h2⟩ := h e (List.mem_filter.1 he).1
            exact ⟨k, by simp [hk], h2⟩
          · simp only [List.mem_singleton] at he; subst he
            exact ⟨l, by simp, .inr rfl⟩
        · simp only [List.mem_singleton] at he; subst he
          exact ⟨l, by simp, .inl rfl⟩
  have := this L [] [] (by simp)
  rw [List.nil_append] at this
  exact this
theorem zkU {n : Nw} {p : Pt} {d : Int} (h : (zhR n.t p).isSome = true) : zdO n p ∈ zfg n d := by
  unfold zdO
  obtain ⟨q, hq⟩ := Option.isSome_iff_exists.1 h
  rw [hq]
  unfold zhR at hq
  rw [Option.map_eq_some_iff] at hq
  obtain ⟨e, he, rfl⟩ := hq
  obtain ⟨l, hl, h2⟩ := zlV _ e (List.mem_of_find?_eq_some he)
  unfold zfg
  rw [List.mem_cons, List.mem_flatMap]
  right
  refine ⟨l, hl, ?_⟩
  rcases h2 with h2 | h2 <;> simp [h2]
theorem zmM {n : Nw} {d a : Int} (h : (zbj n d a).1 = 4) : (zhR n.t (zbj n d a).2).isSome = true := by
  unfold zbj at *
  repeat' split at h
  all_goals first | (simp at h; done) | skip
  rename_i h1 h2 h3 h4
  simp [h1, h2, h3, h4]
structure Way (n : Nw) (a d0 : Int) (d : Int) (p : List Int) : Prop where
  nd : p.Nodup
  sub : ∀ x ∈ p, x ∈ zfg n d0
  at_ : d ∈ zfg n d0
  res : zgk n a (2 + 2 * n.t.links.length - p.length) d p = zhU n d0 a
theorem Way.len {n : Nw} {a d0 d : Int} {p : List Int} (h : Way n a d0 d p) : p.length ≤ 1 + 2 * n.t.links.length := by
  have := zg6 h.nd h.sub
  rwa [zmL] at this
theorem Way.start (n : Nw) (a d0 : Int) : Way n a d0 d0 [] := ⟨by simp, by simp, by simp [zfg], rfl⟩
theorem Way.again {n : Nw} {a d0 d : Int} {p : List Int} (h : Way n a d0 d p) (hd : d ∈ p) : zhU n d0 a = ⟨p ++ [d], 4, ⟨0, 0⟩⟩ := by
  have hl := h.len
  have hr := h.res
  rw [show 2 + 2 * n.t.links.length - p.length = (1 + 2 * n.t.links.length - p.length) + 1 by omega, zgk, if_pos hd] at hr
  exact hr.symm
theorem Way.fin {n : Nw} {a d0 d : Int} {p : List Int} (h : Way n a d0 d p) (hd : d ∉ p) (hs : (zbj n d a).1 ≠ 4) : zhU n d0 a = ⟨p ++ [d], (zbj n d a).1, (zbj n d a).2⟩ := by
  have hl := h.len
  have hr := h.res
  rw [show 2 + 2 * n.t.links.length - p.length = (1 + 2 * n.t.links.length - p.length) + 1 by omega, zgk, if_neg hd, if_neg hs] at hr
  exact hr.symm
theorem Way.on {n : Nw} {a d0 d : Int} {p : List Int} (h : Way n a d0 d p) (hd : d ∉ p) (hs : (zbj n d a).1 = 4) : Way n a d0 (zdO n (zbj n d a).2) (p ++ [d]) := by
  have hl := h.len
  have hr := h.res
  rw [show 2 + 2 * n.t.links.length - p.length = (1 + 2 * n.t.links.length - p.length) + 1 by omega, zgk, if_neg hd, if_pos hs] at hr
  refine ⟨?_, ?_, zkU (zmM hs), ?_⟩
  · rw [List.nodup_append]
    refine ⟨h.nd, by simp, fun x hx y hy e => ?_⟩
    simp only [List.mem_singleton] at hy
    subst hy; subst e; exact hd hx
  · intro x hx
    rcases List.mem_append.1 hx with hx | hx
    · exact h.sub x hx
    · simp only [List.mem_singleton] at hx; subst hx; exact h.at_
  · rw [List.length_append, List.length_singleton, ← hr]
    congr 1; omega
end Go.Proofs.YtckabcbfbpejkaaGreatDoor.Av
namespace Go.Proofs.YtckabcbfbpejkaaGreatDoor.Av
set_option linter.unusedSimpArgs false
set_option linter.unusedVariables false
def zfh (x : Int) : List Int → List Int
  | [] => [x]
  | y :: l => if x < y then x :: y :: l else if y < x then y :: zfh x l else y :: l
theorem zg7 (x z : Int) : ∀ l : List Int, z ∈ zfh x l ↔ z = x ∨ z ∈ l
  | [] => by simp [zfh]
  | y :: l => by
    simp only [zfh]
    split
    · simp
    · split
      · simp only [List.mem_cons, zg7 x z l]
        constructor
        · rintro (h | h | h)
          · exact .inr (.inl h)
          · exact .inl h
          · exact .inr (.inr h)
        · rintro (h | h | h)
          · exact .inr (.inl h)
          · exact .inl h
          · exact .inr (.inr h)
      · have : x = y := by omega
        subst this; simp
theorem zkd (x : Int) : ∀ l : List Int, l.Pairwise (· < ·) → (zfh x l).Pairwise (· < ·)
  | [], _ => by simp [zfh]
  | y :: l, h => by
    obtain ⟨h1, h2⟩ := List.pairwise_cons.1 h
    simp only [zfh]
    split
    · rename_i hx
      refine List.pairwise_cons.2 ⟨fun z hz => ?_, h⟩
      rcases List.mem_cons.1 hz with rfl | hz
      · exact hx
      · have := h1 z hz; omega
    · split
      · rename_i hx
        refine List.pairwise_cons.2 ⟨fun z hz => ?_, zkd x l h2⟩
        rcases (zg7 x z l).1 hz with rfl | hz
        · exact hx
        · exact h1 z hz
      · exact h
def zhV (L : List Rg) : List Int := (0 :: zdD L).foldr zfh []
theorem zhW (L : List Rg) : Cuts (zhV L) L where
  srt := by
    unfold zhV
    generalize 0 :: zdD L = l
    induction l with
    | nil => simp
    | cons x l ih => exact zkd x _ ih
  mem := fun x => by
    have : ∀ l : List Int, x ∈ l.foldr zfh [] ↔ x ∈ l := fun l => by
      induction l with
      | nil => simp
      | cons y l ih => rw [List.foldr_cons, zg7, ih, List.mem_cons]
    unfold zhV
    rw [this, List.mem_cons]
    simp only [zdD, List.mem_flatMap]
theorem Cuts.eq {c : List Int} {L : List Rg} (h : Cuts c L) : c = zhV L := zgG h.srt (zhW L).srt fun x => by rw [h.mem, (zhW L).mem]
theorem Cuts.pos {c : List Int} {L : List Rg} (h : Cuts c L) {a : Int} (ha : 0 ≤ a) : 0 < c.countP (fun y => decide (y ≤ a)) :=
  List.countP_pos_iff.2 ⟨0, (h.mem 0).2 (.inl rfl), by simpa using ha⟩
def zlW (s : Option (List Rg)) (r : Rg) : Option (List Rg) := if r.hi < r.lo then none else if 500 ≤ (s.getD []).length then none else some (r :: s.getD [])
def RepO : Option Tab → Option (List Rg) → Prop
  | none, none => True
  | some T, some L => TabRep T L ∧ L.length ≤ 500
  | _, _ => False
theorem RepO.get {T : Option Tab} {s : Option (List Rg)} (h : RepO T s) : TabRep (T.getD zbh) (s.getD []) ∧ (s.getD []).length ≤ 500 := by
  cases T with
  | none => cases s with
    | none => exact ⟨zoa, by simp⟩
    | some L => exact h.elim
  | some T => cases s with
    | none => exact h.elim
    | some L => exact h
theorem RepO.step {T : Option Tab} {s : Option (List Rg)} (h : RepO T s) {r : Rg} (hr : RgOK r) :
    (r.lo ≤ r.hi → (T.getD zbh).n < 500 → WithOK (T.getD zbh) r 1) ∧ RepO (zo2 T r).1 (zlW s r) := by
  obtain ⟨h1, h2⟩ := h.get
  have hn := h1.n
  refine ⟨fun _ hlt => (zle h1 hr (by omega)).1, ?_⟩
  unfold zo2 zlW
  by_cases q1 : r.hi < r.lo
  · rw [if_pos q1, if_pos q1]; trivial
  · rw [if_neg q1, if_neg q1]
    by_cases q2 : 500 ≤ (s.getD []).length
    · rw [if_pos q2, if_pos (by omega)]; trivial
    · rw [if_neg q2, if_neg (by omega)]
      exact ⟨(zle h1 hr (by omega)).2, by simp only [List.length_cons]; omega⟩
def zqu (L : List Rg) : List Rg := (L.foldl zlW (some [])).getD []
theorem Cuts.perm {c : List Int} {L M : List Rg} (h : Cuts c L) (p : L.Perm M) : Cuts c M := ⟨h.srt, fun x => by
  rw [h.mem]
  constructor
  · rintro (h | ⟨r, hr, hx⟩)
    · exact .inl h
    · exact .inr ⟨r, p.mem_iff.1 hr, hx⟩
  · rintro (h | ⟨r, hr, hx⟩)
    · exact .inl h
    · exact .inr ⟨r, p.mem_iff.2 hr, hx⟩⟩
end Go.Proofs.YtckabcbfbpejkaaGreatDoor.Av
namespace Go.Proofs.YtckabcbfbpejkaaGreatDoor.Av
open Go
set_option linter.unusedSimpArgs false
set_option linter.unusedVariables false
set_option maxRecDepth 100000
set_option maxHeartbeats 4000000
set_option pp.maxSteps 600
def zsT (l : List (Nw × Fl)) (f : Bool) : AV := .sl 3 (l.map fun p => zrA p.1 p.2) f
def zuw (l : List Rg) (f : Bool) : AV := .sl 2 (l.map zg4) f
def zqv (l : List Nw) : List Rg := l.flatMap fun n => n.rules.map (·.r)
def zrI (l : List Nw) (r : Rg) : List Rg := if r.hi < r.lo then [] else zrH (zhV (zqu (zqv l))) r
structure NwOK (n : Nw) : Prop where
  rg : ∀ r ∈ n.rules, RgOK r.r
  ports : n.t.ports.length < 2 ^ 44
  links : n.t.links.length < 2 ^ 42
  rules : n.rules.length < 2932031007403
  id : ∀ r ∈ n.rules, -9223372036854775808 ≤ r.id ∧ r.id < 9223372036854775808
end Go.Proofs.YtckabcbfbpejkaaGreatDoor.Av
namespace Go.Proofs.YtckabcbfbpejkaaGreatDoor.Av
open Go
set_option linter.unusedSimpArgs false
set_option linter.unusedVariables false
set_option maxRecDepth 100000
set_option maxHeartbeats 4000000
set_option pp.maxSteps 600
def zo5 (f : Int) (p : Pt) : AV := .agg [.raw (.int .i64 f), .raw (.int .i64 p.dev), .raw (.int .i64 p.port)]
def zse (N : Nw) (a : Int) (iat ie : Id) (Q : Int → List Int → St → Prop) (F : St → Prop) (d : Int) (p : List Int) (r : AV) (ρ : St) : Prop :=
  (r = .raw (.bool true) ∧ ρ.m iat = some (.buf [.raw (.int .i64 d)]) ∧ ρ.m ie = some (.buf [zo5 4 ⟨0, 0⟩]) ∧ ((zbj N d a).1 ≠ 4 → ∀ π, Ext ρ π → F (π.set ie (.buf [zo5 (zbj N d a).1 (zbj N d a).2]))) ∧
    ((zbj N d a).1 = 4 → ∀ π, Ext ρ π → Q (zdO N (zbj N d a).2) (p ++ [d]) (π.set iat (.buf [.raw (.int .i64 (zdO N (zbj N d a).2))])))) ∨ (r = .raw (.bool false) ∧ F ρ)
end Go.Proofs.YtckabcbfbpejkaaGreatDoor.Av
namespace Go.Proofs.YtckabcbfbpejkaaGreatDoor.Av
open Go
set_option linter.unusedSimpArgs false
set_option linter.unusedVariables false
set_option maxRecDepth 100000
set_option maxHeartbeats 4000000
set_option pp.maxSteps 600
theorem OwnL.ne_sz {σ0 τ : St} {n : Nat} {v : AV} {es : List AV} (h : OwnL σ0 τ n v es) {i : Id} (hi : i.sz ≠ n) : ∀ k l, v ≠ .rs i k l := by
  rintro k l rfl
  rcases h with ⟨_, e⟩ | ⟨j, e, hj, _, _⟩
  · cases e
  · injection e with e; subst e; exact hi hj
theorem OwnL.set {σ0 τ : St} {n : Nat} {v : AV} {es : List AV} (h : OwnL σ0 τ n v es) {i : Id} {o : Ob} (hi : ∀ k l, v ≠ .rs i k l) : OwnL σ0 (τ.set i o) n v es := by
  rcases h with h | ⟨j, e, hj, hm, hn⟩
  · exact .inl h
  · exact .inr ⟨j, e, hj, by rw [zQ (fun e2 => hi 0 es.length (by rw [e, e2]))]; exact hm, hn⟩
theorem OwnL.del {σ0 τ : St} {n : Nat} {v : AV} {es : List AV} (h : OwnL σ0 τ n v es) {i : Id} (hi : ∀ k l, v ≠ .rs i k l) : OwnL σ0 (τ.del i) n v es := by
  rcases h with h | ⟨j, e, hj, hm, hn⟩
  · exact .inl h
  · exact .inr ⟨j, e, hj, by rw [zW (fun e2 => hi 0 es.length (by rw [e, e2]))]; exact hm, hn⟩
structure TrS (σ ρ : St) (i6 i8 : Id) (v : AV) (p : List Int) : Prop where
  ext : Ext σ ρ
  m6 : ρ.m i6 = some (.buf [.agg [.sl 0 [] true, .raw (.int .i64 0), .raw (.int .i64 0), .raw (.int .i64 0)]])
  m8 : ρ.m i8 = some (.buf [.agg [v, .raw (.int .i64 0), .raw (.int .i64 0), .raw (.int .i64 0)]])
  own : OwnL σ ρ 1 v (p.map iAV)
theorem TrS.up {σ ρ π : St} {i6 i8 : Id} {v : AV} {p : List Int} (h : TrS σ ρ i6 i8 v p) (k : Ext ρ π) : TrS σ π i6 i8 v p := ⟨h.ext.trans k, k.m _ _ h.m6, k.m _ _ h.m8, h.own.ext k⟩
theorem TrS.put {σ ρ : St} {i6 i8 i : Id} {v : AV} {p : List Int} {o : Ob} (h : TrS σ ρ i6 i8 v p) (h6 : i6 ≠ i) (h8 : i8 ≠ i) (hv : ∀ k l, v ≠ .rs i k l) (h0 : σ.m i = none) : TrS σ (ρ.set i o) i6 i8 v p :=
  ⟨Ext.setF h.ext h0, by rw [zQ h6]; exact h.m6, by rw [zQ h8]; exact h.m8, h.own.set hv⟩
theorem TrS.del {σ ρ : St} {i6 i8 i : Id} {v : AV} {p : List Int} (h : TrS σ ρ i6 i8 v p) (h6 : i6 ≠ i) (h8 : i8 ≠ i) (hv : ∀ k l, v ≠ .rs i k l) (h0 : σ.m i = none) : TrS σ (ρ.del i) i6 i8 v p :=
  ⟨⟨fun j o hj => by rw [zW (fun e => by rw [e, h0] at hj; cases hj)]; exact h.ext.m j o hj, h.ext.nx⟩, by rw [zW h6]; exact h.m6, by rw [zW h8]; exact h.m8, h.own.del hv⟩
def zf1 (n : Nw) (d a : Int) : Tk × Int := if d < 0 ∨ n.t.ports.length ≤ d then (⟨[], 0, ⟨0, 0⟩⟩, 91) else (zhU n d a, 0)
end Go.Proofs.YtckabcbfbpejkaaGreatDoor.Av
namespace Go.Proofs.YtckabcbfbpejkaaGreatDoor.Av
open Go
set_option linter.unusedSimpArgs false
set_option linter.unusedVariables false
set_option maxRecDepth 100000
set_option maxHeartbeats 4000000
set_option pp.maxSteps 600
def zrJ (N : Nw) (a : Int) (t : Tk) : Bool := match t.path with | [] => false | d :: _ => decide ((zf1 N d a).2 = 0) && decide (t = (zf1 N d a).1)
structure Qy where
  kind : Int
  a : Int
  b : Int
  w : Int
  r : Rg
  other : ByteArray
def qyAV (q : Qy) : AV := .agg [.raw (.int .i64 q.kind), .raw (.int .i64 q.a), .raw (.int .i64 q.b), .raw (.int .i64 q.w), .raw (.int .u32 q.r.lo), .raw (.int .u32 q.r.hi), .raw (.string q.other)]
def zlf (q : Qy) : Bool := decide (q.kind = 0) || (decide (q.kind = 3) || decide (q.kind = 4))
def zqw (n : Nw) (d : Int) : Bool := decide (d < 0) || decide ((n.t.ports.length : Int) ≤ d)
def zlg (t : Tk) (d : Int) : Bool := decide (t.out = 3) && decide (t.last.dev = d)
def zmN (t : Tk) (d : Int) : Bool := t.path.any fun x => decide (d = x)
end Go.Proofs.YtckabcbfbpejkaaGreatDoor.Av
namespace Go.Proofs.YtckabcbfbpejkaaGreatDoor.Av
open Go
set_option linter.unusedSimpArgs false
set_option linter.unusedVariables false
set_option maxRecDepth 100000
set_option maxHeartbeats 4000000
set_option pp.maxSteps 600
def zob (q : Qy) : Bool := q.other.toList == (ByteArray.toList ⟨#[]⟩)
def zo6 (n : Nw) (q : Qy) : Bool :=
  !(decide (q.kind < 0) || (decide (5 < q.kind) || decide (q.r.hi < q.r.lo))) && (!([q.a, q.b, q.w].any (zqw n)) && ((zlf q || (decide (q.a = 0) && decide (q.b = 0))) && ((decide (q.kind = 4) || decide (q.w = 0)) && (decide (q.kind = 5) || zob q))))
def znv (n : Nw) (q : Qy) : List Int := if zlf q = true then [q.a] else (List.range n.t.ports.length).map fun i : Nat => (i : Int)
def zoc (q : Qy) (t u : Tk) : Bool :=
  if q.kind = 0 then !zlg t q.b else if q.kind = 1 then decide (t.out = 4) else if q.kind = 2 then decide (t.out = 0) else if q.kind = 3 then zmN t q.b else if q.kind = 4 then zlg t q.b && !zmN t q.w else if q.kind = 5 then !decide (t = u) else false
end Go.Proofs.YtckabcbfbpejkaaGreatDoor.Av
namespace Go.Proofs.YtckabcbfbpejkaaGreatDoor.Av
open Go
set_option linter.unusedSimpArgs false
set_option linter.unusedVariables false
set_option maxRecDepth 100000
set_option maxHeartbeats 4000000
set_option pp.maxSteps 600
structure Vd where
  holds : Bool
  src : Int
  addr : Int
  tr : Tk
deriving DecidableEq
def vdAV (v : Vd) (f : Bool) : AV := .agg [.raw (.bool v.holds), .raw (.int .i64 v.src), .raw (.int .u32 v.addr), zaI v.tr.path f, .raw (.int .i64 v.tr.out), .raw (.int .i64 v.tr.last.dev), .raw (.int .i64 v.tr.last.port)]
def zo7 : Tk := ⟨[], 0, ⟨0, 0⟩⟩
def zo8 (n m : Nw) (q : Qy) (d : Int) : List Rg → Option Vd
  | [] => none
  | r :: rs => if zoc q (zf1 n d r.lo).1 (zf1 m d r.lo).1 = true then some ⟨false, d, r.lo, (zf1 n d r.lo).1⟩ else zo8 n m q d rs
def znU (n m : Nw) (q : Qy) (P : List Rg) : List Int → Option Vd
  | [] => none
  | d :: ds => match zo8 n m q d P with
    | some v => some v
    | none => znU n m q P ds
def runQ (n m : Nw) (q : Qy) : Vd × Int :=
  if zo6 n q = false ∨ (q.kind = 5 ∧ n.t ≠ m.t) then (⟨false, 0, 0, zo7⟩, 121) else
    match znU n (if q.kind = 5 then m else n) q (zrI [n, if q.kind = 5 then m else n] q.r) (znv n q) with
    | some v => (v, 0)
    | none => (⟨true, 0, 0, zo7⟩, 0)
def zux : AV := .agg [.raw (.bool false), .raw (.int .i64 0), .raw (.int .u32 0), .sl 0 [] true, .raw (.int .i64 0), .raw (.int .i64 0), .raw (.int .i64 0)]
end Go.Proofs.YtckabcbfbpejkaaGreatDoor.Av
namespace Go.Proofs.YtckabcbfbpejkaaGreatDoor.Av
open Go
set_option linter.unusedSimpArgs false
set_option linter.unusedVariables false
set_option maxRecDepth 100000
set_option maxHeartbeats 2000000
set_option pp.maxSteps 300
def zsU (n : Nw) : Bool := zo1 n.t && (zbY n.rules && zqq n.t n.rules)
end Go.Proofs.YtckabcbfbpejkaaGreatDoor.Av
namespace Go.Proofs.YtckabcbfbpejkaaGreatDoor.Av
open Go
set_option linter.unusedSimpArgs false
set_option linter.unusedVariables false
set_option maxRecDepth 100000
set_option maxHeartbeats 2000000
set_option pp.maxSteps 600
def zrK (n : Nw) (d a : Int) : Int × Pt :=
  if zcM n.rules d a = true then (2, ⟨0, 0⟩) else if n.rules.any (zav d a false) = false then (0, ⟨0, 0⟩) else if (zau (n.rules.filter (zav d a false))).kind = 1 then (1, ⟨0, 0⟩)
  else if (zj8 n.t.links ⟨d, (zau (n.rules.filter (zav d a false))).port⟩).isSome = true then (4, ⟨d, (zau (n.rules.filter (zav d a false))).port⟩) else (3, ⟨d, (zau (n.rules.filter (zav d a false))).port⟩)
end Go.Proofs.YtckabcbfbpejkaaGreatDoor.Av
namespace Go.Proofs.YtckabcbfbpejkaaGreatDoor.Av
open Go
set_option linter.unusedSimpArgs false
set_option linter.unusedVariables false
set_option maxRecDepth 100000
def zuy (m : List (Pt × Pt)) (p : Pt) : Option Pt := (m.find? fun e => decide (p = e.1)).map (·.2)
def zqx : List Lk → List Pt
  | [] => []
  | l :: ls => l.a :: l.b :: zqx ls
end Go.Proofs.YtckabcbfbpejkaaGreatDoor.Av
namespace Go.Proofs.YtckabcbfbpejkaaGreatDoor.Av
open Go
set_option linter.unusedSimpArgs false
set_option linter.unusedVariables false
set_option maxRecDepth 100000
end Go.Proofs.YtckabcbfbpejkaaGreatDoor.Av
namespace Go.Proofs.YtckabcbfbpejkaaGreatDoor.Av
open Go
set_option linter.unusedSimpArgs false
set_option linter.unusedVariables false
set_option maxRecDepth 100000
theorem zkV {l : List Ru} {last : Int} (h : zaZ last l = true) : ∀ r ∈ l, zay r = true := by
  induction l generalizing last with
  | nil => simp
  | cons x l ih =>
    simp only [zaZ, Bool.and_eq_true] at h
    intro r hr
    rcases List.mem_cons.1 hr with rfl | hr
    · exact h.1.1
    · exact ih h.2 r hr
theorem zej {l : List Ru} (h : zbY l = true) : ∀ r ∈ l, 0 ≤ r.kind ∧ r.kind ≤ 3 := by
  intro r hr
  have := zkV (Bool.and_eq_true _ _ ▸ h : _ ∧ _).1 r hr
  simp only [zay, Bool.and_eq_true, decide_eq_true_eq] at this
  exact this.1.1.1.2
theorem zhX {l : List Ru} {p q : Ru → Bool} (h : ∀ r ∈ l, p r = q r) : l.any p = l.any q := by
  induction l with
  | nil => rfl
  | cons x l ih =>
    rw [List.any_cons, List.any_cons, h x (by simp), ih fun r hr => h r (List.mem_cons_of_mem _ hr)]
theorem zlX {l : List Ru} (h : zbY l = true) (d a : Int) : l.filter (zav d a true) = l.filter (zex d a) := List.filter_congr fun r hr => zj9 (zej h r hr) d a
theorem zlY {l : List Ru} (h : zbY l = true) (d a : Int) : l.filter (zav d a false) = l.filter (zey d a) := List.filter_congr fun r hr => zka (zej h r hr) d a
theorem zod {l : List Ru} (h : zbY l = true) (d a : Int) : l.any (zav d a true) = l.any (zex d a) := zhX fun r hr => zj9 (zej h r hr) d a
theorem zoe {l : List Ru} (h : zbY l = true) (d a : Int) : l.any (zav d a false) = l.any (zey d a) := zhX fun r hr => zka (zej h r hr) d a
end Go.Proofs.YtckabcbfbpejkaaGreatDoor.Av
namespace Go.Proofs.YtckabcbfbpejkaaGreatDoor.Av.Zn
open Go
set_option linter.unusedSimpArgs false
set_option linter.unusedVariables false
set_option maxRecDepth 100000
attribute [ext] Rg
def zAV (z : List Rg) (full : Bool) : AV := .sl 2 (z.map zg4) full
end Go.Proofs.YtckabcbfbpejkaaGreatDoor.Av.Zn
namespace Go.Proofs.YtckabcbfbpejkaaGreatDoor.Av.Zn
open Go
set_option linter.unusedSimpArgs false
set_option linter.unusedVariables false
set_option maxRecDepth 100000
set_option pp.maxSteps 300
def _root_.Go.Proofs.YtckabcbfbpejkaaGreatDoor.Av.Rg.In (r : Rg) : Prop := 0 ≤ r.lo ∧ r.lo < 4294967296 ∧ 0 ≤ r.hi ∧ r.hi < 4294967296
def InZ (z : List Rg) : Prop := ∀ r ∈ z, r.In
def zrL (z : List Rg) (i : Nat) : Bool :=
  match z[i]? with
  | some r => decide (r.lo ≤ r.hi) && (i == 0 || match z[i - 1]? with | some p => decide (p.hi + 1 < r.lo) | none => true)
  | none => true
def rightB (z : List Rg) : Bool := (List.range z.length).all (zrL z)
end Go.Proofs.YtckabcbfbpejkaaGreatDoor.Av.Zn
namespace Go.Proofs.YtckabcbfbpejkaaGreatDoor.Av.Zn
open Go
set_option linter.unusedSimpArgs false
set_option linter.unusedVariables false
set_option maxRecDepth 100000
set_option pp.maxSteps 300
def zsV (z : List Rg) (i : Nat) : Int := match i with | 0 => -2 | k + 1 => match z[k]? with | some r => r.hi | none => -2
def zsW (z : List Rg) : AV := match z with | [] => .tup [.raw (.int .u32 0), .raw (.bool false)] | r :: _ => .tup [.raw (.int .u32 r.lo), .raw (.bool true)]
def hasB (z : List Rg) (a : Int) : Bool := z.any fun r => decide (r.lo ≤ a) && decide (a ≤ r.hi)
def zsX (z : List Rg) : Int := (z.map fun r => r.hi - r.lo + 1).sum
end Go.Proofs.YtckabcbfbpejkaaGreatDoor.Av.Zn
namespace Go.Proofs.YtckabcbfbpejkaaGreatDoor.Av.Zn
open Go
set_option linter.unusedSimpArgs false
set_option linter.unusedVariables false
set_option maxRecDepth 100000
set_option pp.maxSteps 300
def cmpI (a b : Int) : Int := if a < b then -1 else if b < a then 1 else 0
def firstGe (c : Rg → Int) (z : List Rg) : Nat := z.findIdx fun r => decide (0 ≤ c r)
end Go.Proofs.YtckabcbfbpejkaaGreatDoor.Av.Zn
namespace Go.Proofs.YtckabcbfbpejkaaGreatDoor.Av.Zn
open Go
set_option linter.unusedSimpArgs false
set_option linter.unusedVariables false
set_option maxRecDepth 100000
set_option pp.maxSteps 300
structure But (i : Id) (σ τ : St) : Prop where
  m : ∀ l o, l ≠ i → σ.m l = some o → τ.m l = some o
  nx : ∀ s, σ.nx s ≤ τ.nx s
end Go.Proofs.YtckabcbfbpejkaaGreatDoor.Av.Zn
namespace Go.Proofs.YtckabcbfbpejkaaGreatDoor.Av.Zn
open Go
set_option linter.unusedSimpArgs false
set_option linter.unusedVariables false
set_option maxRecDepth 100000
end Go.Proofs.YtckabcbfbpejkaaGreatDoor.Av.Zn
namespace Go.Proofs.YtckabcbfbpejkaaGreatDoor.Av.Zn
set_option linter.unusedSimpArgs false
set_option linter.unusedVariables false
def MZ (z : List Rg) (a : Int) : Prop := ∃ r ∈ z, r.lo ≤ a ∧ a ≤ r.hi
theorem zke {a : Int} : ¬ MZ [] a := fun ⟨_, h, _⟩ => by cases h
theorem zaR {r : Rg} {z : List Rg} {a : Int} : MZ (r :: z) a ↔ (r.lo ≤ a ∧ a ≤ r.hi) ∨ MZ z a := by
  constructor
  · rintro ⟨s, h, k⟩
    rcases List.mem_cons.1 h with rfl | h
    · exact .inl k
    · exact .inr ⟨s, h, k⟩
  · rintro (h | ⟨s, h, k⟩)
    · exact ⟨r, by simp, h⟩
    · exact ⟨s, by simp [h], k⟩
def RZ : Int → List Rg → Prop
  | _, [] => True
  | b, r :: z => b < r.lo ∧ r.lo ≤ r.hi ∧ RZ (r.hi + 1) z
theorem RZ.gt : ∀ {z : List Rg} {b a : Int}, RZ b z → MZ z a → b < a
  | [], _, _, _, h => absurd h zke
  | r :: z, b, a, k, h => by
    rcases zaR.1 h with h | h
    · have := k.1; omega
    · have := RZ.gt k.2.2 h; have := k.1; have := k.2.1; omega
theorem RZ.ext : ∀ {x y : List Rg} {b c : Int}, RZ b x → RZ c y → (∀ a, MZ x a ↔ MZ y a) → x = y
  | [], [], _, _, _, _, _ => rfl
  | [], s :: y, _, _, _, k, h => absurd ((h s.lo).2 (zaR.2 (.inl ⟨Int.le_refl _, k.2.1⟩))) zke
  | r :: x, [], _, _, k, _, h => absurd ((h r.lo).1 (zaR.2 (.inl ⟨Int.le_refl _, k.2.1⟩))) zke
  | r :: x, s :: y, b, c, k, l, h => by
    obtain ⟨k1, k2, k3⟩ := k
    obtain ⟨l1, l2, l3⟩ := l
    have gx : ∀ {a}, MZ x a → r.hi + 1 < a := fun h => RZ.gt k3 h
    have gy : ∀ {a}, MZ y a → s.hi + 1 < a := fun h => RZ.gt l3 h
    have hlo : r.lo = s.lo := by
      have h1 := (h r.lo).1 (zaR.2 (.inl ⟨Int.le_refl _, k2⟩))
      have h2 := (h s.lo).2 (zaR.2 (.inl ⟨Int.le_refl _, l2⟩))
      rcases zaR.1 h1 with h1 | h1 <;> rcases zaR.1 h2 with h2 | h2
      · omega
      · have := gx h2; omega
      · have := gy h1; omega
      · have := gx h2; have := gy h1; omega
    have hhi : r.hi = s.hi := by
      rcases Int.lt_trichotomy r.hi s.hi with hl | hl | hl
      · have h1 := (h (r.hi + 1)).2 (zaR.2 (.inl ⟨by omega, by omega⟩))
        rcases zaR.1 h1 with h1 | h1
        · omega
        · have := gx h1; omega
      · exact hl
      · have h1 := (h (s.hi + 1)).1 (zaR.2 (.inl ⟨by omega, by omega⟩))
        rcases zaR.1 h1 with h1 | h1
        · omega
        · have := gy h1; omega
    have he : r = s := Rg.ext hlo hhi
    subst he
    congr 1
    refine RZ.ext k3 l3 fun a => ⟨fun ha => ?_, fun ha => ?_⟩
    · rcases zaR.1 ((h a).1 (zaR.2 (.inr ha))) with h1 | h1
      · have := gx ha; omega
      · exact h1
    · rcases zaR.1 ((h a).2 (zaR.2 (.inr ha))) with h1 | h1
      · have := gy ha; omega
      · exact h1
theorem RZ.at : ∀ {z : List Rg} {b : Int}, RZ b z → ∀ i r, z[i]? = some r → b < r.lo ∧ r.lo ≤ r.hi ∧ ∀ s, z[i + 1]? = some s → r.hi + 1 < s.lo
  | [], _, _, _, _, h => by simp at h
  | r :: z, b, k, 0, s, h => by
    simp at h; subst h
    refine ⟨k.1, k.2.1, fun s hs => ?_⟩
    cases z with
    | nil => simp at hs
    | cons t z => simp at hs; subst hs; exact k.2.2.1
  | r :: z, b, k, i + 1, s, h => by
    have := RZ.at k.2.2 i s (by simpa using h)
    refine ⟨by have := k.1; have := k.2.1; omega, this.2.1, fun t ht => this.2.2 t (by simpa using ht)⟩
def mg : Rg → List Rg → List Rg
  | r, [] => [r]
  | r, x :: l => if x.lo ≤ r.hi + 1 then mg ⟨r.lo, max r.hi x.hi⟩ l else r :: mg x l
def zsY : List Rg → List Rg
  | [] => []
  | r :: l => mg r l
def zo9 : List Rg → List Rg → List Rg
  | r :: x, s :: y => (if max r.lo s.lo ≤ min r.hi s.hi then [⟨max r.lo s.lo, min r.hi s.hi⟩] else []) ++ if r.hi < s.hi then zo9 x (s :: y) else zo9 (r :: x) y
  | _, _ => []
termination_by x y => x.length + y.length
def zrM : Int → List Rg → List Rg
  | b, [] => if b ≤ 4294967295 then [⟨b, 4294967295⟩] else []
  | b, r :: z => (if b < r.lo then [⟨b, r.lo - 1⟩] else []) ++ zrM (r.hi + 1) z
end Go.Proofs.YtckabcbfbpejkaaGreatDoor.Av.Zn
namespace Go.Proofs.YtckabcbfbpejkaaGreatDoor.Av
open Go
set_option linter.unusedSimpArgs false
set_option linter.unusedVariables false
theorem zgH : ∀ {l : List Ru} {last : Int}, zaZ last l = true → (∀ r ∈ l, zay r = true) ∧ (∀ r ∈ l, last < r.id) ∧ Srt l
  | [], _, _ => ⟨by simp, by simp, List.Pairwise.nil⟩
  | r :: l, last, h => by
    simp only [zaZ, Bool.and_eq_true, decide_eq_true_eq] at h
    obtain ⟨⟨h1, h2⟩, h3⟩ := h
    obtain ⟨k1, k2, k3⟩ := zgH h3
    refine ⟨fun x hx => ?_, fun x hx => ?_, List.Pairwise.cons k2 k3⟩
    · rcases List.mem_cons.1 hx with rfl | hx
      · exact h1
      · exact k1 x hx
    · rcases List.mem_cons.1 hx with rfl | hx
      · exact h2
      · have := k2 x hx; omega
theorem znw {l : List Ru} (h : zbY l = true) : (∀ r ∈ l, zay r = true) ∧ Srt l := by
  unfold zbY at h
  simp only [Bool.and_eq_true] at h
  have := zgH h.1
  exact ⟨this.1, this.2.2⟩
def ownP (d a : Int) (r : Ru) : Bool := decide (r.dev = d) && (decide (r.r.lo ≤ a) && decide (a ≤ r.r.hi))
end Go.Proofs.YtckabcbfbpejkaaGreatDoor.Av
