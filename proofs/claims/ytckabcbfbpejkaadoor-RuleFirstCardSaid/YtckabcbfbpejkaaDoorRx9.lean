/- Rules: the laws RuleTells, RuleBack, RuleApart, RuleFirst. Part 9 of 22: AvTy, AvGo, AvN1, AvN2, AvN3, AvN4, AvN5, AvN6, AvFzE, AvRS, AvN16, AvN12, AvN8, AvN9, AvN13, AvN14, AvN17, AvN22, AvN7, AvN11, AvT1, AvN10, AvT2, AvT3, AvT4, AvT5, AvT6, AvT7, AvT8, AvN25, AvT9, AvT10, AvN26, AvN27, AvN28, AvN29, AvN30, AvN15, AvN18, AvN19, AvN20, AvN21, AvZ1, AvZ2, AvZ4, AvZ5, AvZ6, AvZ3, AvP3, AvPB. -/
import Derived.Test.YtckabcbfbpejkaaDoorRx8
import Derived.Test.YtckabcbfbpejkaaDoorProg
namespace Go.Proofs.YtckabcbfbpejkaaDoor.Av
set_option linter.unusedSimpArgs false
set_option linter.unusedVariables false
open Go
@[simp] theorem zqy : zV Tryd.prog 3 = some 1 := by kernel_rfl
@[simp] theorem zqz : zac Tryd.prog 3 = some 8 := by kernel_rfl
@[simp] theorem zqA : zX Tryd.prog 3 = some (.int .i64 (0)) := by kernel_rfl
@[simp] theorem tag3 : zaa Tryd.prog 3 = some false := by simp [zaa, Tryd.underlying3]
@[simp] theorem arr3 : zN Tryd.prog 3 = none := by simp [zN, Tryd.underlying3]
@[simp] theorem uin3 : zbX Tryd.prog 3 = some .i64 := by kernel_rfl
@[simp] theorem pla3 : zbo Tryd.prog 3 = true := by kernel_rfl
@[simp] theorem tsz4 : zV Tryd.prog 4 = some 1 := by kernel_rfl
@[simp] theorem tby4 : zac Tryd.prog 4 = some 1 := by kernel_rfl
@[simp] theorem tze4 : zX Tryd.prog 4 = some (.bool false) := by kernel_rfl
@[simp] theorem tag4 : zaa Tryd.prog 4 = some false := by simp [zaa, Tryd.underlying4]
@[simp] theorem arr4 : zN Tryd.prog 4 = none := by simp [zN, Tryd.underlying4]
@[simp] theorem ubo4 : zep Tryd.prog 4 = true := by kernel_rfl
@[simp] theorem pla4 : zbo Tryd.prog 4 = true := by kernel_rfl
@[simp] theorem tsz5 : zV Tryd.prog 5 = some 1 := by kernel_rfl
@[simp] theorem tby5 : zac Tryd.prog 5 = some 1 := by kernel_rfl
@[simp] theorem tze5 : zX Tryd.prog 5 = some (.int .u8 (0)) := by kernel_rfl
@[simp] theorem tag5 : zaa Tryd.prog 5 = some false := by simp [zaa, Tryd.underlying5]
@[simp] theorem arr5 : zN Tryd.prog 5 = none := by simp [zN, Tryd.underlying5]
@[simp] theorem uin5 : zbX Tryd.prog 5 = some .u8 := by kernel_rfl
@[simp] theorem pla5 : zbo Tryd.prog 5 = true := by kernel_rfl
@[simp] theorem zqB : zV Tryd.prog 9 = some 1 := by kernel_rfl
@[simp] theorem zqC : zac Tryd.prog 9 = some 16 := by kernel_rfl
@[simp] theorem zqD : zX Tryd.prog 9 = some (.string ⟨#[]⟩) := by kernel_rfl
@[simp] theorem tag9 : zaa Tryd.prog 9 = some false := by simp [zaa, Tryd.underlying9]
@[simp] theorem arr9 : zN Tryd.prog 9 = none := by simp [zN, Tryd.underlying9]
@[simp] theorem ust9 : zdu Tryd.prog 9 = true := by kernel_rfl
@[simp] theorem pla9 : zbo Tryd.prog 9 = true := by kernel_rfl
@[simp] theorem zsh : zV Tryd.prog 22 = some 1 := by kernel_rfl
@[simp] theorem zsi : zac Tryd.prog 22 = some 4 := by kernel_rfl
@[simp] theorem zsj : zX Tryd.prog 22 = some (.int .u32 (0)) := by kernel_rfl
@[simp] theorem zsk : zaa Tryd.prog 22 = some false := by simp [zaa, Tryd.underlying22]
@[simp] theorem zsl : zN Tryd.prog 22 = none := by simp [zN, Tryd.underlying22]
@[simp] theorem zsm : zbX Tryd.prog 22 = some .u32 := by kernel_rfl
@[simp] theorem zsn : zbo Tryd.prog 22 = true := by kernel_rfl
@[simp] theorem zso : zV Tryd.prog 24 = some 2 := by kernel_rfl
@[simp] theorem zsp : zac Tryd.prog 24 = some 16 := by kernel_rfl
@[simp] theorem zsq : zX Tryd.prog 24 = some (.agg #[(.int .u32 (0)), (.int .i64 (0))]) := by kernel_rfl
@[simp] theorem zsr : zaa Tryd.prog 24 = some true := by simp [zaa, Tryd.underlying24]
@[simp] theorem zss : zN Tryd.prog 24 = none := by simp [zN, Tryd.underlying24]
@[simp] theorem zst : zb0 Tryd.prog 24 = true := by kernel_rfl
@[simp] theorem zsu : zeq Tryd.prog 24 = true := by kernel_rfl
@[simp] theorem zq8 : zam Tryd.prog 24 0 = some (22, 0) := by kernel_rfl
@[simp] theorem zq9 : zam Tryd.prog 24 1 = some (3, 1) := by kernel_rfl
@[simp] theorem zsv : zbF Tryd.prog 24 = some [(22, 0), (3, 1)] := by kernel_rfl
@[simp] theorem zsw : Tryd.prog.eqGuardType Tryd.prog.depth 24 = false := by kernel_rfl
@[simp] theorem zsx : zV Tryd.prog 28 = some 2 := by kernel_rfl
@[simp] theorem zsy : zac Tryd.prog 28 = some 8 := by kernel_rfl
@[simp] theorem zsz : zX Tryd.prog 28 = some (.agg #[(.int .u32 (0)), (.int .u32 (0))]) := by kernel_rfl
@[simp] theorem zsA : zaa Tryd.prog 28 = some true := by simp [zaa, Tryd.underlying28]
@[simp] theorem zsB : zN Tryd.prog 28 = none := by simp [zN, Tryd.underlying28]
@[simp] theorem zsC : zb0 Tryd.prog 28 = true := by kernel_rfl
@[simp] theorem zsD : zeq Tryd.prog 28 = true := by kernel_rfl
@[simp] theorem zra : zam Tryd.prog 28 0 = some (22, 0) := by kernel_rfl
@[simp] theorem zrb : zam Tryd.prog 28 1 = some (22, 1) := by kernel_rfl
@[simp] theorem zsE : zbF Tryd.prog 28 = some [(22, 0), (22, 1)] := by kernel_rfl
@[simp] theorem zsF : Tryd.prog.eqGuardType Tryd.prog.depth 28 = false := by kernel_rfl
@[simp] theorem zsG : zV Tryd.prog 50 = some 1 := by kernel_rfl
@[simp] theorem zsH : zac Tryd.prog 50 = some 8 := by kernel_rfl
@[simp] theorem zsI : zX Tryd.prog 50 = some (.int .i64 (0)) := by kernel_rfl
@[simp] theorem zsJ : zaa Tryd.prog 50 = some false := by simp [zaa, Tryd.underlying50]
@[simp] theorem zsK : zN Tryd.prog 50 = none := by simp [zN, Tryd.underlying50]
@[simp] theorem zsL : zbX Tryd.prog 50 = some .i64 := by kernel_rfl
@[simp] theorem zsM : zbo Tryd.prog 50 = true := by kernel_rfl
@[simp] theorem zpo : zV Tryd.prog 52 = some 7 := by kernel_rfl
@[simp] theorem zpp : zac Tryd.prog 52 = some 48 := by kernel_rfl
@[simp] theorem zpq : zX Tryd.prog 52 = some (.agg #[(.int .i64 (0)), (.int .i64 (0)), (.int .i64 (0)), (.int .i64 (0)), (.int .u32 (0)), (.int .u32 (0)), (.int .i64 (0))]) := by kernel_rfl
@[simp] theorem zsN : zaa Tryd.prog 52 = some true := by simp [zaa, Tryd.underlying52]
@[simp] theorem zsO : zN Tryd.prog 52 = none := by simp [zN, Tryd.underlying52]
@[simp] theorem zsP : zb0 Tryd.prog 52 = true := by kernel_rfl
@[simp] theorem zsQ : zeq Tryd.prog 52 = true := by kernel_rfl
@[simp] theorem zrc : zam Tryd.prog 52 0 = some (3, 0) := by kernel_rfl
@[simp] theorem zrd : zam Tryd.prog 52 1 = some (3, 1) := by kernel_rfl
@[simp] theorem zre : zam Tryd.prog 52 2 = some (3, 2) := by kernel_rfl
@[simp] theorem zrf : zam Tryd.prog 52 3 = some (50, 3) := by kernel_rfl
@[simp] theorem zrg : zam Tryd.prog 52 4 = some (28, 4) := by kernel_rfl
@[simp] theorem zrh : zam Tryd.prog 52 5 = some (3, 6) := by kernel_rfl
@[simp] theorem zsR : zbF Tryd.prog 52 = some [(3, 0), (3, 1), (3, 2), (50, 3), (28, 4), (3, 6)] := by kernel_rfl
@[simp] theorem zmY : Tryd.prog.eqGuardType Tryd.prog.depth 52 = false := by kernel_rfl
@[simp] theorem zsS : zV Tryd.prog 53 = some 1 := by kernel_rfl
@[simp] theorem zsT : zac Tryd.prog 53 = some 8 := by kernel_rfl
@[simp] theorem zsU : zX Tryd.prog 53 = some .nilFunc := by kernel_rfl
@[simp] theorem zsV : zaa Tryd.prog 53 = some false := by simp [zaa, Tryd.underlying53]
@[simp] theorem zsW : zN Tryd.prog 53 = none := by simp [zN, Tryd.underlying53]
@[simp] theorem zsX : zV Tryd.prog 58 = some 1 := by kernel_rfl
@[simp] theorem zsY : zac Tryd.prog 58 = some 24 := by kernel_rfl
@[simp] theorem zsZ : zX Tryd.prog 58 = some (.slice none 0 0) := by kernel_rfl
@[simp] theorem zs0 : zaa Tryd.prog 58 = some false := by simp [zaa, Tryd.underlying58]
@[simp] theorem zs1 : zN Tryd.prog 58 = none := by simp [zN, Tryd.underlying58]
@[simp] theorem zpr : zY Tryd.prog 58 = some 52 := by kernel_rfl
@[simp] theorem zs2 : zV Tryd.prog 66 = some 1 := by kernel_rfl
@[simp] theorem zs3 : zac Tryd.prog 66 = some 8 := by kernel_rfl
@[simp] theorem zs4 : zX Tryd.prog 66 = some (.int .u64 (0)) := by kernel_rfl
@[simp] theorem zs5 : zaa Tryd.prog 66 = some false := by simp [zaa, Tryd.underlying66]
@[simp] theorem zs6 : zN Tryd.prog 66 = none := by simp [zN, Tryd.underlying66]
@[simp] theorem zs7 : zbX Tryd.prog 66 = some .u64 := by kernel_rfl
@[simp] theorem zs8 : zbo Tryd.prog 66 = true := by kernel_rfl
@[simp] theorem zs9 : zV Tryd.prog 67 = some 4 := by kernel_rfl
@[simp] theorem zta : zac Tryd.prog 67 = some 4 := by kernel_rfl
@[simp] theorem ztb : zX Tryd.prog 67 = some (.agg #[(.int .u8 (0)), (.int .u8 (0)), (.int .u8 (0)), (.int .u8 (0))]) := by kernel_rfl
@[simp] theorem ztc : zaa Tryd.prog 67 = some true := by simp [zaa, Tryd.underlying67]
@[simp] theorem ztd : zN Tryd.prog 67 = some (4, 5) := by simp [zN, Tryd.underlying67]
@[simp] theorem zte : zV Tryd.prog 68 = some 1 := by kernel_rfl
@[simp] theorem ztf : zac Tryd.prog 68 = some 24 := by kernel_rfl
@[simp] theorem ztg : zX Tryd.prog 68 = some (.slice none 0 0) := by kernel_rfl
@[simp] theorem zth : zaa Tryd.prog 68 = some false := by simp [zaa, Tryd.underlying68]
@[simp] theorem zti : zN Tryd.prog 68 = none := by simp [zN, Tryd.underlying68]
@[simp] theorem zps : zY Tryd.prog 68 = some 9 := by kernel_rfl
@[simp] theorem ztj : zV Tryd.prog 84 = some 4 := by kernel_rfl
@[simp] theorem ztk : zac Tryd.prog 84 = some 64 := by kernel_rfl
@[simp] theorem ztl : zX Tryd.prog 84 = some (.agg #[(.string ⟨#[]⟩), (.string ⟨#[]⟩), (.string ⟨#[]⟩), (.string ⟨#[]⟩)]) := by kernel_rfl
@[simp] theorem ztm : zaa Tryd.prog 84 = some true := by simp [zaa, Tryd.underlying84]
@[simp] theorem ztn : zN Tryd.prog 84 = some (4, 9) := by simp [zN, Tryd.underlying84]
@[simp] theorem zto : zV Tryd.prog 94 = some 1 := by kernel_rfl
@[simp] theorem ztp : zac Tryd.prog 94 = some 8 := by kernel_rfl
@[simp] theorem ztq : zX Tryd.prog 94 = some (.int .u64 (0)) := by kernel_rfl
@[simp] theorem ztr : zaa Tryd.prog 94 = some false := by simp [zaa, Tryd.underlying94]
@[simp] theorem zts : zN Tryd.prog 94 = none := by simp [zN, Tryd.underlying94]
@[simp] theorem ztt : zbX Tryd.prog 94 = some .u64 := by kernel_rfl
@[simp] theorem ztu : zbo Tryd.prog 94 = true := by kernel_rfl
@[simp] theorem zrL : zV Tryd.prog 101 = some 1 := by kernel_rfl
@[simp] theorem zrM : zac Tryd.prog 101 = some 16 := by kernel_rfl
@[simp] theorem zrN : zX Tryd.prog 101 = some .nilIface := by kernel_rfl
@[simp] theorem zrO : zaa Tryd.prog 101 = some false := by simp [zaa, Tryd.underlying101]
@[simp] theorem zrP : zN Tryd.prog 101 = none := by simp [zN, Tryd.underlying101]
@[simp] theorem zrQ : zeW Tryd.prog 101 = true := by kernel_rfl
@[simp] theorem zrR : zV Tryd.prog 136 = some 1 := by kernel_rfl
@[simp] theorem zrS : zac Tryd.prog 136 = some 24 := by kernel_rfl
@[simp] theorem zrT : zX Tryd.prog 136 = some (.slice none 0 0) := by kernel_rfl
@[simp] theorem zrU : zaa Tryd.prog 136 = some false := by simp [zaa, Tryd.underlying136]
@[simp] theorem zrV : zN Tryd.prog 136 = none := by simp [zN, Tryd.underlying136]
@[simp] theorem zn1 : zY Tryd.prog 136 = some 3 := by kernel_rfl
theorem zkT : SlT Tryd.prog 58 7 48 := ⟨⟨52, _, zpr, zpo, zpp, zpq, rfl, by decide, by decide⟩⟩
theorem zmZ : SlT Tryd.prog 68 1 16 := ⟨⟨9, _, zps, zqB, zqC, zqD, rfl, by decide, by decide⟩⟩
theorem zrW : SlT Tryd.prog 136 1 8 := ⟨⟨3, _, zn1, zqy, zqz, zqA, rfl, by decide, by decide⟩⟩
theorem mixed : Tryd.prog.follows .mixedOrders = true := by kernel_rfl
end Go.Proofs.YtckabcbfbpejkaaDoor.Av
namespace Go.Proofs.YtckabcbfbpejkaaDoor.Av
set_option linter.unusedSimpArgs false
set_option linter.unusedVariables false
open Go
theorem Ext.setF {σ τ : St} {i : Id} {o : Ob} (h : Ext σ τ) (hi : σ.m i = none) : Ext σ (τ.set i o) := ⟨fun j p hj => by
    have hne : j ≠ i := fun e => by rw [e, hi] at hj; cases hj
    simp only [St.set, hne, false_and, if_false]
    exact h.m j p hj, h.nx⟩
theorem zkm {τ : St} {i : Id} {o p : Ob} (h : τ.m i = some p) : (τ.set i o).m i = some o := by simp [St.set, h]
theorem zn2 {τ : St} {i j : Id} {o : Ob} (h : j ≠ i) : (τ.set i o).m j = τ.m j := by simp [St.set, h]
theorem zs {σ : St} {slot sz : Nat} {o : Ob} {j : Id} : (σ.new slot sz o).m j = if j = ⟨slot, σ.nx slot, sz⟩ then some o else σ.m j := rfl
theorem zv {σ : St} {i j : Id} {o : Ob} : (σ.set i o).m j = if j = i ∧ (σ.m i).isSome = true then some o else σ.m j := rfl
theorem zh {σ : St} {slot sz s : Nat} {o : Ob} : (σ.new slot sz o).nx s = if s = slot then σ.nx s + 1 else σ.nx s := rfl
section
variable {P : Program} {N : Nat} {A : zk} {σ σ0 : St} {r : Option Nat} {K : Exit → zk → St → Prop}
def zdQ (v : AV) (X Y : Prop) : Prop := zdN v X Y
@[congr] theorem zoM {tk : Prop} (hx : (True ∧ True) = tk) {v v' : AV} {X Y : Prop} (h : v = v') : zdQ v X Y = zdQ v' X Y := by rw [h]
@[simp] theorem zri {X Y : Prop} : zdQ (.raw (.bool true)) X Y = X := by simp [zdQ, zdN]
@[simp] theorem zrj {X Y : Prop} : zdQ (.raw (.bool false)) X Y = Y := by simp [zdQ, zdN]
theorem zn {c : Operand} {x y : Code} (h : zdQ (zc A c) (AWP P r N x K A σ) (AWP P r N y K A σ)) : AWP P r N (.cond c x y) K A σ := zge h
theorem zg {b : Bool} {X Y : Prop} (h1 : b = true → X) (h2 : b = false → Y) : zdQ (.raw (.bool b)) X Y := ⟨h1, h2⟩
def zkU (P : Program) (r : Option Nat) (N : Nat) (c : Code) (K : Exit → zk → St → Prop) (A : zk) (σ : St) : Prop := match c with
  | .skip => K .normal A σ
  | .exit n => K (.exit n) A σ
  | .ret => K .ret A σ
  | c => AWP P r N c K A σ
theorem zG {c : Code} (h : zkU P r N c K A σ) : AWP P r N c K A σ := by
  cases c <;> first | exact zmg h | exact zmh h | exact zkk h | exact h
theorem zH : zkU P r N .skip K A σ = K .normal A σ ∧ (∀ n, zkU P r N (.exit n) K A σ = K (.exit n) A σ) ∧ zkU P r N .ret K A σ = K .ret A σ := ⟨rfl, fun _ => rfl, rfl⟩
theorem dN {id : Nat} {ops : List Oper} (hc : zhL ops (fun _ => false) = true) (h : dops Tryd.prog N (ops.map (zbt ops fun _ => false)) A σ (K .normal)) : AWP Tryd.prog r N (.region id ops.toArray true) K A σ := zfe _ mixed hc h
theorem dC {id : Nat} {ops : List Oper} (hc : zhL ops zfF = true) (h : dops Tryd.prog N (ops.map (zbt ops zfF)) A σ (K .normal)) : AWP Tryd.prog r N (.region id ops.toArray true) K A σ := zfe _ mixed hc h
theorem uP {f : FuncId} {args : List AV} {rv : AV} {K : AV → St → Prop} (h : PCalls P f args rv) (k : K rv σ) : ACalls P f args σ K := h.use k
theorem uD {f : FuncId} {args : List AV} {rv : AV} {X : Prop} {m : zE} {K : AV → St → Prop} (h : PCalls P f args rv) (k : K rv σ) : (∃ r, RCalls P m f args r ∧ K r σ) ∨ X := .inl ⟨_, .inl h, k⟩
theorem nsE : (∀ {σ : St} {slot sz : Nat} {o : Ob} {j : Id}, (σ.new slot sz o).m j = if j = ⟨slot, σ.nx slot, sz⟩ then some o else σ.m j) ∧ (∀ {σ : St} {i j : Id} {o : Ob}, (σ.set i o).m j = if j = i ∧ (σ.m i).isSome = true then some o else σ.m j) ∧ (∀ {σ : St} {slot sz s : Nat} {o : Ob}, (σ.new slot sz o).nx s = if s = slot then σ.nx s + 1 else σ.nx s) := ⟨rfl, rfl, rfl⟩
end
structure Hd (H : Prop) : Prop where
  h : H
theorem gxA {G : Prop} (w : G := by (try ((first | with_reducible refine zu ?_ | with_reducible refine zA ?_ | with_reducible refine zB ?_); simp [-cellOK, FF])); repeat' (first | ((first | refine zn ?_ | refine zr ?_ | refine dN (by decide +kernel) ?_ | refine dC (by decide +kernel) ?_ | refine uP (by assumption) ?_ | refine .inl ⟨_, .inl (by assumption), ?_⟩ | (refine zd ?_ ?_ <;> (intro hg; simp only [hg])) | fail) <;> simp [-cellOK, FF]) | refine zp ?_ | refine zl ?_ | (refine zG ?_; simp only [zH]; try simp) | (refine zy (by simp) ?_; simp) | (refine zce (by simp) (by simp [noIds]) (by repeat (first | assumption | exact Ext.refl _ | refine zbu ?_ | refine Ext.setF ?_ (by first | assumption | (simp [zh, St.set, zw]; done) | exact zai (by assumption)))) ?_; simp [-cellOK, FF, nsE]) | (refine zg (fun hc => ?_) (fun hc => ?_) <;> try simp at hc) | fail)) : G := w
theorem gxB {G H : Prop} (k : H) (w : Hd H → G := by intro hH; (try ((first | with_reducible refine zu ?_ | with_reducible refine zA ?_ | with_reducible refine zB ?_); simp [-cellOK, FF])); (repeat' (first | ((first | refine zn ?_ | refine zr ?_ | refine dN (by decide +kernel) ?_ | refine dC (by decide +kernel) ?_ | refine uP (by assumption) ?_ | refine .inl ⟨_, .inl (by assumption), ?_⟩ | (refine zd ?_ ?_ <;> (intro hg; simp only [hg])) | fail) <;> simp [-cellOK, FF]) | refine zp ?_ | refine zl ?_ | (refine zG ?_; simp only [zH]; try simp) | (refine zy (by simp) ?_; simp) | (refine zce (by simp) (by simp [noIds]) (by repeat (first | assumption | exact Ext.refl _ | refine zbu ?_ | refine Ext.setF ?_ (by first | assumption | (simp [zh, St.set, zw]; done) | exact zai (by assumption)))) ?_; simp [-cellOK, FF, nsE]) | (refine zg (fun hc => ?_) (fun hc => ?_) <;> try simp at hc) | fail)); exact hH.h) : G := w ⟨k⟩
theorem gxC {G H : Prop} (k : H) (w : Hd H → G := by intro hH; (try ((first | with_reducible refine zu ?_ | with_reducible refine zA ?_ | with_reducible refine zB ?_); simp [-cellOK, FF])); (repeat' (first | ((first | refine zn ?_ | refine zr ?_ | refine dN (by decide +kernel) ?_ | refine dC (by decide +kernel) ?_ | refine uP (by assumption) ?_ | refine .inl ⟨_, .inl (by assumption), ?_⟩ | (refine zd ?_ ?_ <;> (intro hg; simp only [hg])) | fail) <;> simp [-cellOK, FF]) | refine zp ?_ | refine zl ?_ | (refine zG ?_; simp only [zH]; try simp) | (refine zg (fun hc => ?_) (fun hc => ?_) <;> try simp at hc) | fail)); exact hH.h) : G := w ⟨k⟩
theorem goA {G : Prop} (w : G := by (try ((first | with_reducible refine zu ?_ | with_reducible refine zA ?_ | with_reducible refine zB ?_); simp [FF])); repeat' (first | ((first | refine zn ?_ | refine zr ?_ | refine dN (by decide +kernel) ?_ | (refine zd ?_ ?_ <;> (intro hg; simp only [hg])) | fail) <;> simp [FF]) | refine zp ?_ | refine zl ?_ | (refine zG ?_; simp only [zH]; try simp) | ((first | refine zy (by simp) ?_ | refine zC (by simp) (by simp) (by simp (maxDischargeDepth := 30) [FF]) ?_ | fail); simp) | (refine zg (fun hc => ?_) (fun hc => ?_) <;> try simp at hc) | fail)) : G := w
theorem goB {G H : Prop} (k : H) (w : Hd H → G := by intro hH; (try ((first | with_reducible refine zu ?_ | with_reducible refine zA ?_ | with_reducible refine zB ?_); simp [FF])); (repeat' (first | ((first | refine zn ?_ | refine zr ?_ | refine dN (by decide +kernel) ?_ | (refine zd ?_ ?_ <;> (intro hg; simp only [hg])) | fail) <;> simp [FF]) | refine zp ?_ | refine zl ?_ | (refine zG ?_; simp only [zH]; try simp) | ((first | refine zy (by simp) ?_ | refine zC (by simp) (by simp) (by simp (maxDischargeDepth := 30) [FF]) ?_ | fail); simp) | (refine zg (fun hc => ?_) (fun hc => ?_) <;> try simp at hc) | fail)); exact hH.h) : G := w ⟨k⟩
theorem goC {G H : Prop} (k : H) (w : Hd H → G := by intro hH; (try ((first | with_reducible refine zu ?_ | with_reducible refine zA ?_ | with_reducible refine zB ?_); simp [FF])); (repeat' (first | ((first | refine zn ?_ | refine zr ?_ | refine dN (by decide +kernel) ?_ | (refine zd ?_ ?_ <;> (intro hg; simp only [hg])) | fail) <;> simp [FF]) | refine zp ?_ | refine zl ?_ | (refine zG ?_; simp only [zH]; try simp) | (refine zg (fun hc => ?_) (fun hc => ?_) <;> try simp at hc) | fail)); exact hH.h) : G := w ⟨k⟩
theorem goN {G : Prop} (w : G := by (try ((first | with_reducible refine zu ?_ | with_reducible refine zA ?_ | with_reducible refine zB ?_); simp [FF])); repeat' (first | ((first | refine zr ?_ | refine dN (by decide +kernel) ?_ | (refine zd ?_ ?_ <;> (intro hg; simp only [hg])) | fail) <;> simp [FF]) | refine zp ?_ | refine zl ?_ | (refine zG ?_; simp only [zH]; try simp) | ((first | refine zy (by simp) ?_ | refine zC (by simp) (by simp) (by simp (maxDischargeDepth := 30) [FF]) ?_ | fail); simp) | (apply zg5; focus (simp [FF]; done)) | (apply zg6; focus (simp [FF]; done)) | fail)) : G := w
theorem goM {G H : Prop} (k : H) (w : Hd H → G := by intro hH; (try ((first | with_reducible refine zu ?_ | with_reducible refine zA ?_ | with_reducible refine zB ?_); simp [FF])); (repeat' (first | ((first | refine zr ?_ | refine dN (by decide +kernel) ?_ | (refine zd ?_ ?_ <;> (intro hg; simp only [hg])) | fail) <;> simp [FF]) | refine zp ?_ | refine zl ?_ | (refine zG ?_; simp only [zH]; try simp) | ((first | refine zy (by simp) ?_ | refine zC (by simp) (by simp) (by simp (maxDischargeDepth := 30) [FF]) ?_ | fail); simp) | (apply zg5; focus (simp [FF]; done)) | (apply zg6; focus (simp [FF]; done)) | fail)); exact hH.h) : G := w ⟨k⟩
theorem zhN {G : Prop} (w : G := by (try ((first | with_reducible refine zu ?_ | with_reducible refine zA ?_ | with_reducible refine zB ?_); simp [-cellOK])); repeat' (first | ((first | refine zn ?_ | refine zr ?_ | refine dN (by decide +kernel) ?_ | refine dC (by decide +kernel) ?_ | refine uP (by assumption) ?_ | refine .inl ⟨_, .inl (by assumption), ?_⟩ | (refine zd ?_ ?_ <;> (intro hg; simp only [hg])) | fail) <;> simp [-cellOK]) | refine zp ?_ | refine zl ?_ | (refine zG ?_; simp only [zH]; try simp) | (refine zy (by simp) ?_; simp) | (refine zce (by simp) (by simp [noIds]) (by repeat (first | assumption | exact Ext.refl _ | refine zbu ?_ | refine Ext.setF ?_ (by first | assumption | (simp [zh, St.set, zw]; done) | exact zai (by assumption)))) ?_; simp [-cellOK, nsE]) | (refine zg (fun hc => ?_) (fun hc => ?_) <;> try simp at hc) | fail)) : G := w
theorem gxB0 {G H : Prop} (k : H) (w : Hd H → G := by intro hH; (try ((first | with_reducible refine zu ?_ | with_reducible refine zA ?_ | with_reducible refine zB ?_); simp [-cellOK])); (repeat' (first | ((first | refine zn ?_ | refine zr ?_ | refine dN (by decide +kernel) ?_ | refine dC (by decide +kernel) ?_ | refine uP (by assumption) ?_ | refine .inl ⟨_, .inl (by assumption), ?_⟩ | (refine zd ?_ ?_ <;> (intro hg; simp only [hg])) | fail) <;> simp [-cellOK]) | refine zp ?_ | refine zl ?_ | (refine zG ?_; simp only [zH]; try simp) | (refine zy (by simp) ?_; simp) | (refine zce (by simp) (by simp [noIds]) (by repeat (first | assumption | exact Ext.refl _ | refine zbu ?_ | refine Ext.setF ?_ (by first | assumption | (simp [zh, St.set, zw]; done) | exact zai (by assumption)))) ?_; simp [-cellOK, nsE]) | (refine zg (fun hc => ?_) (fun hc => ?_) <;> try simp at hc) | fail)); exact hH.h) : G := w ⟨k⟩
theorem zqE {G H : Prop} (k : H) (w : Hd H → G := by intro hH; (try ((first | with_reducible refine zu ?_ | with_reducible refine zA ?_ | with_reducible refine zB ?_); simp [-cellOK])); (repeat' (first | ((first | refine zn ?_ | refine zr ?_ | refine dN (by decide +kernel) ?_ | refine dC (by decide +kernel) ?_ | refine uP (by assumption) ?_ | refine .inl ⟨_, .inl (by assumption), ?_⟩ | (refine zd ?_ ?_ <;> (intro hg; simp only [hg])) | fail) <;> simp [-cellOK]) | refine zp ?_ | refine zl ?_ | (refine zG ?_; simp only [zH]; try simp) | (refine zg (fun hc => ?_) (fun hc => ?_) <;> try simp at hc) | fail)); exact hH.h) : G := w ⟨k⟩
theorem zhO {G : Prop} (w : G := by (try ((first | with_reducible refine zu ?_ | with_reducible refine zA ?_ | with_reducible refine zB ?_); simp)); repeat' (first | ((first | refine zn ?_ | refine zr ?_ | refine dN (by decide +kernel) ?_ | (refine zd ?_ ?_ <;> (intro hg; simp only [hg])) | fail) <;> simp) | refine zp ?_ | refine zl ?_ | (refine zG ?_; simp only [zH]; try simp) | ((first | refine zy (by simp) ?_ | refine zC (by simp) (by simp) (by simp (maxDischargeDepth := 30)) ?_ | fail); simp) | (refine zg (fun hc => ?_) (fun hc => ?_) <;> try simp at hc) | fail)) : G := w
theorem zmy {G H : Prop} (k : H) (w : Hd H → G := by intro hH; (try ((first | with_reducible refine zu ?_ | with_reducible refine zA ?_ | with_reducible refine zB ?_); simp)); (repeat' (first | ((first | refine zn ?_ | refine zr ?_ | refine dN (by decide +kernel) ?_ | (refine zd ?_ ?_ <;> (intro hg; simp only [hg])) | fail) <;> simp) | refine zp ?_ | refine zl ?_ | (refine zG ?_; simp only [zH]; try simp) | ((first | refine zy (by simp) ?_ | refine zC (by simp) (by simp) (by simp (maxDischargeDepth := 30)) ?_ | fail); simp) | (refine zg (fun hc => ?_) (fun hc => ?_) <;> try simp at hc) | fail)); exact hH.h) : G := w ⟨k⟩
theorem zqF {G H : Prop} (k : H) (w : Hd H → G := by intro hH; (try ((first | with_reducible refine zu ?_ | with_reducible refine zA ?_ | with_reducible refine zB ?_); simp)); (repeat' (first | ((first | refine zn ?_ | refine zr ?_ | refine dN (by decide +kernel) ?_ | (refine zd ?_ ?_ <;> (intro hg; simp only [hg])) | fail) <;> simp) | refine zp ?_ | refine zl ?_ | (refine zG ?_; simp only [zH]; try simp) | (refine zg (fun hc => ?_) (fun hc => ?_) <;> try simp at hc) | fail)); exact hH.h) : G := w ⟨k⟩
theorem goD {G H : Prop} (k : H) (w : Hd H → G := by intro hH; (try ((first | with_reducible refine zu ?_ | with_reducible refine zA ?_ | with_reducible refine zB ?_); simp)); exact hH.h) : G := w ⟨k⟩
theorem exA {σ τ : St} (w : Ext σ τ := by repeat (first | assumption | exact Ext.refl _ | refine zbu ?_ | refine Ext.setF ?_ (by first | assumption | (simp [zh, St.set, zw]; done) | exact zai (by assumption)))) : Ext σ τ := w
theorem fI {a b : Prop} (h : a) (k : b) : a ∧ b := ⟨h, k⟩
end Go.Proofs.YtckabcbfbpejkaaDoor.Av
namespace Go.Proofs.YtckabcbfbpejkaaDoor.Av
open Go
set_option linter.unusedSimpArgs false
set_option linter.unusedVariables false
set_option maxRecDepth 100000
set_option maxHeartbeats 1000000
set_option pp.maxSteps 300
structure Pt where
  dev : Int
  port : Int
deriving DecidableEq
structure Lk where
  a : Pt
  b : Pt
deriving DecidableEq
structure Rg where
  lo : Int
  hi : Int
deriving DecidableEq
structure Ru where
  id : Int
  dev : Int
  prio : Int
  kind : Int
  r : Rg
  port : Int
deriving DecidableEq
structure Tp where
  ports : List Int
  links : List Lk
deriving DecidableEq
structure Nw where
  t : Tp
  rules : List Ru
deriving DecidableEq
def iAV (n : Int) : AV := .raw (.int .i64 n)
def uAV (n : Int) : AV := .raw (.int .u32 n)
def zqG (p : Pt) : AV := .agg [.raw (.int .i64 p.dev), .raw (.int .i64 p.port)]
def zqH (l : Lk) : AV := .agg [.raw (.int .i64 l.a.dev), .raw (.int .i64 l.a.port), .raw (.int .i64 l.b.dev), .raw (.int .i64 l.b.port)]
def zgn (r : Rg) : AV := .agg [.raw (.int .u32 r.lo), .raw (.int .u32 r.hi)]
def ze (r : Ru) : AV := .agg [.raw (.int .i64 r.id), .raw (.int .i64 r.dev), .raw (.int .i64 r.prio), .raw (.int .i64 r.kind), .raw (.int .u32 r.r.lo), .raw (.int .u32 r.r.hi), .raw (.int .i64 r.port)]
def zav (l : List Int) (f : Bool) : AV := .sl 1 (l.map iAV) f
def zhP (l : List Lk) (f : Bool) : AV := .sl 4 (l.map zqH) f
def za (l : List Ru) (f : Bool) : AV := .sl 7 (l.map ze) f
structure Fl where
  p : Bool
  l : Bool
  r : Bool
def tpAV (t : Tp) (f : Fl) : AV := .agg [zav t.ports f.p, zhP t.links f.l]
def zqI (n : Nw) (f : Fl) : AV := .agg [zav n.t.ports f.p, zhP n.t.links f.l, za n.rules f.r]
def hasB (t : Tp) (p : Pt) : Bool := decide (0 ≤ p.dev) && match t.ports[p.dev.toNat]? with | some n => decide (0 ≤ p.port) && decide (p.port < n) | none => false
theorem zbq (n a b : Int) : PCalls Tryd.prog 57 [.raw (.int .i64 n), .raw (.int .i64 a), .raw (.int .i64 b)] (.raw (.bool (decide (a ≤ n) && decide (n ≤ b)))) := by
  refine zM Tryd.func57 rfl (N := 15) rfl rfl (by simp) (by simp [noIds]) fun σ => ?_
  exact zhO
theorem zbf (n b : Int) : PCalls Tryd.prog 66 [.raw (.int .i64 n), .raw (.int .i64 b)] (.raw (.bool (decide (0 ≤ n) && decide (n ≤ b)))) := by
  refine zM Tryd.func66 rfl (N := 12) rfl rfl (by simp) (by simp [noIds]) fun σ => ?_
  exact zhO
def zcr (r : Ru) (d a : Int) : Bool := decide (r.dev = d) && (decide (r.r.lo ≤ a) && decide (a ≤ r.r.hi))
theorem zfX (r : Ru) (d a : Int) : PCalls Tryd.prog 64 [ze r, .raw (.int .i64 d), .raw (.int .u32 a)] (.raw (.bool (zcr r d a))) := by
  refine zM Tryd.func64 rfl (N := 25) rfl rfl (by simp) (by simp [noIds]) fun σ => ?_
  (try ((first | with_reducible refine zu ?_ | with_reducible refine zA ?_ | with_reducible refine zB ?_); simp [ze])); repeat' (first | ((first | refine zn ?_ | refine zr ?_ | refine dN (by decide +kernel) ?_ | (refine zd ?_ ?_ <;> (intro hg; simp only [hg])) | fail) <;> simp [ze]) | refine zp ?_ | refine zl ?_ | (refine zG ?_; simp only [zH]; try simp) | ((first | refine zy (by simp) ?_ | refine zC (by simp) (by simp) (by simp (maxDischargeDepth := 30) [ze]) ?_ | fail); simp) | (refine zg (fun hc => ?_) (fun hc => ?_) <;> try simp at hc) | fail)
  all_goals (simp_all [zcr] <;> intros <;> omega)
theorem zfY (a : Int) : PCalls Tryd.prog 86 [.raw (.int .i64 a)] (.raw (.bool false)) := by
  refine zM Tryd.func86 rfl (N := 6) rfl rfl (by simp) (by simp [noIds]) fun σ => ?_
  exact zhO
def cmpI (a b : Int) : Int := if a < b then -1 else if b < a then 1 else 0
theorem zc5 (a b : Int) : PCalls Tryd.prog 70 [.raw (.int .i64 a), .raw (.int .i64 b)] (.raw (.int .i64 (cmpI a b))) := by
  refine zM Tryd.func70 rfl (N := 20) rfl rfl (by simp) (by simp [noIds]) fun σ => ?_
  refine zmy ?_
  refine PCalls.use (zfY a) ?_
  refine zmy ?_
  refine PCalls.use (zfY b) ?_
  (try ((first | with_reducible refine zu ?_ | with_reducible refine zA ?_ | with_reducible refine zB ?_); simp [cmpI])); repeat' (first | ((first | refine zn ?_ | refine zr ?_ | refine dN (by decide +kernel) ?_ | (refine zd ?_ ?_ <;> (intro hg; simp only [hg])) | fail) <;> simp [cmpI]) | refine zp ?_ | refine zl ?_ | (refine zG ?_; simp only [zH]; try simp) | ((first | refine zy (by simp) ?_ | refine zC (by simp) (by simp) (by simp (maxDischargeDepth := 30) [cmpI]) ?_ | fail); simp) | (refine zg (fun hc => ?_) (fun hc => ?_) <;> try simp at hc) | fail)
  all_goals (unfold cmpI; (repeat' split) <;> omega)
end Go.Proofs.YtckabcbfbpejkaaDoor.Av
namespace Go.Proofs.YtckabcbfbpejkaaDoor.Av
open Go
set_option linter.unusedSimpArgs false
set_option linter.unusedVariables false
set_option maxRecDepth 100000
set_option maxHeartbeats 1000000
set_option pp.maxSteps 300
theorem zmz (a b : Int) (f : Bool) : PCalls Tryd.prog 97 [zav [a, b] f] (.raw (.int .i64 (if a = 0 then b else a))) := by
  refine zM Tryd.func97 rfl (N := 18) rfl rfl (by simp) (by simp [noIds]) fun σ => ?_
  have FF := fI zav.eq_1 iAV.eq_1; refine goB ?_; clear FF
  refine zao (fun n A τ => τ = σ ∧ A 3 = .raw (.int .i64 0) ∧ A 6 = zav [a, b] f ∧ A 7 = .raw (.int .i64 2) ∧ ∃ i : Nat, A 8 = .raw (.int .i64 i) ∧ i ≤ 2 ∧ n = 2 - i ∧ (0 < i → a = 0) ∧ (1 < i → b = 0)) 2 ?_ ?_
  · exact ⟨by simp, by simp, by simp [zav, iAV], by simp, 0, by simp, by omega, by omega, fun h => by omega, fun h => by omega⟩
  rintro n A τ ⟨rfl, a3, a6, a7, i, a8, hi, rfl, h0, h1⟩ I1 hI1
  by_cases hlt : i < 2
  · rcases (show i = 0 ∨ i = 1 by omega) with rfl | rfl
    · have w1 : IntKind.i64.wrap 1 = 1 := zS (by omega) (by omega)
      (try ((first | with_reducible refine zu ?_ | with_reducible refine zA ?_ | with_reducible refine zB ?_); simp [a3, a6, a7, a8, zav, iAV, w1])); repeat' (first | ((first | refine zn ?_ | refine zr ?_ | refine dN (by decide +kernel) ?_ | (refine zd ?_ ?_ <;> (intro hg; simp only [hg])) | fail) <;> simp [a3, a6, a7, a8, zav, iAV, w1]) | refine zp ?_ | refine zl ?_ | (refine zG ?_; simp only [zH]; try simp) | ((first | refine zy (by simp) ?_ | refine zC (by simp) (by simp) (by simp (maxDischargeDepth := 30) [a3, a6, a7, a8, zav, iAV, w1]) ?_ | fail); simp) | (refine zg (fun hc => ?_) (fun hc => ?_) <;> try simp at hc) | fail)
      · simp_all
      · exact hI1 1 _ _ (by omega) ⟨by simp, by simp [a3], by simp [a6, zav, iAV], by simp [a7], 1, by simp, by omega, by omega, fun _ => by simpa using hc, fun h => by omega⟩
    · have ha := h0 (by omega)
      have w1 : IntKind.i64.wrap 2 = 2 := zS (by omega) (by omega)
      (try ((first | with_reducible refine zu ?_ | with_reducible refine zA ?_ | with_reducible refine zB ?_); simp [a3, a6, a7, a8, zav, iAV, w1])); repeat' (first | ((first | refine zn ?_ | refine zr ?_ | refine dN (by decide +kernel) ?_ | (refine zd ?_ ?_ <;> (intro hg; simp only [hg])) | fail) <;> simp [a3, a6, a7, a8, zav, iAV, w1]) | refine zp ?_ | refine zl ?_ | (refine zG ?_; simp only [zH]; try simp) | ((first | refine zy (by simp) ?_ | refine zC (by simp) (by simp) (by simp (maxDischargeDepth := 30) [a3, a6, a7, a8, zav, iAV, w1]) ?_ | fail); simp) | (refine zg (fun hc => ?_) (fun hc => ?_) <;> try simp at hc) | fail)
      · simp_all
      · exact hI1 0 _ _ (by omega) ⟨by simp, by simp [a3], by simp [a6, zav, iAV], by simp [a7], 2, by simp, by omega, by omega, fun _ => ha, fun _ => by simpa using hc⟩
  · have : i = 2 := by omega
    subst this
    have ha := h0 (by omega)
    have hb := h1 (by omega)
    subst ha; subst hb
    have FF := fI @a3 (fI @a6 (fI @a7 (fI @a8 (fI zav.eq_1 iAV.eq_1)))); exact goA
def zaC (r : Ru) : Bool := decide (1 ≤ r.id) && decide (r.id ≤ 1048576) && (decide (0 ≤ r.dev) && decide (r.dev ≤ 7)) && (decide (0 ≤ r.prio) && decide (r.prio ≤ 1024)) && (decide (0 ≤ r.kind) && decide (r.kind ≤ 3)) &&
  (decide (0 ≤ r.port) && decide (r.port ≤ 3)) && (decide (r.kind = 0) || decide (r.port = 0)) && decide (r.r.lo ≤ r.r.hi)
theorem zaO (r : Ru) : PCalls Tryd.prog 34 [ze r] (.raw (.bool (zaC r))) := by
  obtain ⟨b1, h1⟩ : ∃ b, (decide (1 ≤ r.id) && decide (r.id ≤ 1048576)) = b := ⟨_, rfl⟩
  obtain ⟨b2, h2⟩ : ∃ b, (decide (0 ≤ r.dev) && decide (r.dev ≤ 7)) = b := ⟨_, rfl⟩
  obtain ⟨b3, h3⟩ : ∃ b, (decide (0 ≤ r.prio) && decide (r.prio ≤ 1024)) = b := ⟨_, rfl⟩
  obtain ⟨b4, h4⟩ : ∃ b, (decide (0 ≤ r.kind) && decide (r.kind ≤ 3)) = b := ⟨_, rfl⟩
  obtain ⟨b5, h5⟩ : ∃ b, (decide (0 ≤ r.port) && decide (r.port ≤ 3)) = b := ⟨_, rfl⟩
  obtain ⟨b6, h6⟩ : ∃ b, decide (r.kind = 0) = b := ⟨_, rfl⟩
  obtain ⟨b7, h7⟩ : ∃ b, decide (r.port = 0) = b := ⟨_, rfl⟩
  obtain ⟨b8, h8⟩ : ∃ b, decide (r.r.lo ≤ r.r.hi) = b := ⟨_, rfl⟩
  have c1 := h1 ▸ zbq r.id 1 1048576
  have c2 := h2 ▸ zbq r.dev 0 7
  have c3 := h3 ▸ zbq r.prio 0 1024
  have c4 := h4 ▸ zbq r.kind 0 3
  have c5 := h5 ▸ zbq r.port 0 3
  have e : zaC r = (b1 && b2 && b3 && b4 && b5 && (b6 || b7) && b8) := by unfold zaC; rw [h1, h2, h3, h4, h5, h6, h7, h8]
  rw [e]
  clear e
  refine zM Tryd.func34 rfl (N := 49) rfl rfl (by simp) (by simp [noIds]) fun σ => ?_
  have FF := fI ze.eq_1 (fI @h6 (fI @h7 @h8)); refine goB ?_; clear FF
  repeat' (first | refine PCalls.use c1 ?_ | refine PCalls.use c2 ?_ | refine PCalls.use c3 ?_ | refine PCalls.use c4 ?_ | refine PCalls.use c5 ?_); all_goals (try ((first | with_reducible refine zu ?_ | with_reducible refine zA ?_ | with_reducible refine zB ?_); simp [ze, h6, h7, h8])); repeat' (first | ((first | refine zn ?_ | refine zr ?_ | refine dN (by decide +kernel) ?_ | (refine zd ?_ ?_ <;> (intro hg; simp only [hg])) | fail) <;> simp [ze, h6, h7, h8]) | refine zp ?_ | refine zl ?_ | (refine zG ?_; simp only [zH]; try simp) | ((first | refine zy (by simp) ?_ | refine zC (by simp) (by simp) (by simp (maxDischargeDepth := 30) [ze, h6, h7, h8]) ?_ | fail); simp) | (refine zg (fun hc => ?_) (fun hc => ?_) <;> try simp at hc) | fail)
theorem zc1 (r : Ru) (hr : -9223372036854775808 ≤ r.id) (hr2 : r.id < 9223372036854775808) : PCalls Tryd.prog 41 [ze r] (.raw (.bool (zaC r))) := by
  obtain ⟨b1, h1⟩ : ∃ b, (decide (0 ≤ r.id - 1) && decide (r.id - 1 ≤ 1048575)) = b := ⟨_, rfl⟩
  obtain ⟨b2, h2⟩ : ∃ b, (decide (0 ≤ r.dev) && decide (r.dev ≤ 7)) = b := ⟨_, rfl⟩
  obtain ⟨b3, h3⟩ : ∃ b, (decide (0 ≤ r.prio) && decide (r.prio ≤ 1024)) = b := ⟨_, rfl⟩
  obtain ⟨b4, h4⟩ : ∃ b, (decide (0 ≤ r.kind) && decide (r.kind ≤ 3)) = b := ⟨_, rfl⟩
  obtain ⟨b5, h5⟩ : ∃ b, (decide (0 ≤ r.port) && decide (r.port ≤ 3)) = b := ⟨_, rfl⟩
  obtain ⟨b6, h6⟩ : ∃ b, decide (r.kind = 0) = b := ⟨_, rfl⟩
  obtain ⟨b7, h7⟩ : ∃ b, decide (r.port = 0) = b := ⟨_, rfl⟩
  obtain ⟨b8, h8⟩ : ∃ b, decide (r.r.lo ≤ r.r.hi) = b := ⟨_, rfl⟩
  obtain ⟨X, w⟩ : ∃ X, IntKind.i64.wrap (r.id - 1) = X := ⟨_, rfl⟩
  have hX : (decide (0 ≤ X) && decide (X ≤ 1048575)) = b1 := by
    by_cases q : r.id = -9223372036854775808
    · have e : X = 9223372036854775807 := by rw [← w, q]; decide
      rw [← h1, e, q]; decide
    · rw [← w, zS (by omega) (by omega)]; exact h1
  have c1 := hX ▸ zbf X 1048575
  have c2 := h2 ▸ zbf r.dev 7
  have c3 := h3 ▸ zbf r.prio 1024
  have c4 := h4 ▸ zbf r.kind 3
  have c5 := h5 ▸ zbf r.port 3
  have e : zaC r = (b1 && b2 && b3 && b4 && b5 && (b6 || b7) && b8) := by
    unfold zaC; rw [← h1, h2, h3, h4, h5, h6, h7, h8]
    rw [show decide (0 ≤ r.id - 1) = decide (1 ≤ r.id) by (congr 1; exact propext (by omega)), show decide (r.id - 1 ≤ 1048575) = decide (r.id ≤ 1048576) by (congr 1; exact propext (by omega))]
  rw [e]
  clear e
  refine zM Tryd.func41 rfl (N := 52) rfl rfl (by simp) (by simp [noIds]) fun σ => ?_
  have FF := fI ze.eq_1 (fI @h6 (fI @h7 (fI @h8 @w))); refine goB ?_; clear FF
  repeat' (first | refine PCalls.use c1 ?_ | refine PCalls.use c2 ?_ | refine PCalls.use c3 ?_ | refine PCalls.use c4 ?_ | refine PCalls.use c5 ?_); all_goals (try ((first | with_reducible refine zu ?_ | with_reducible refine zA ?_ | with_reducible refine zB ?_); simp [ze, h6, h7, h8, w])); repeat' (first | ((first | refine zn ?_ | refine zr ?_ | refine dN (by decide +kernel) ?_ | (refine zd ?_ ?_ <;> (intro hg; simp only [hg])) | fail) <;> simp [ze, h6, h7, h8, w]) | refine zp ?_ | refine zl ?_ | (refine zG ?_; simp only [zH]; try simp) | ((first | refine zy (by simp) ?_ | refine zC (by simp) (by simp) (by simp (maxDischargeDepth := 30) [ze, h6, h7, h8, w]) ?_ | fail); simp) | (refine zg (fun hc => ?_) (fun hc => ?_) <;> try simp at hc) | fail)
def zcs (x y : Ru) : Int := if cmpI y.prio x.prio = 0 then cmpI x.id y.id else cmpI y.prio x.prio
theorem zj9 (x y : Ru) : PCalls Tryd.prog 85 [ze x, ze y] (.raw (.int .i64 (zcs x y))) := by
  refine zM Tryd.func85 rfl (N := 17) rfl rfl (by simp) (by simp [noIds]) fun σ => ?_
  have FF := ze.eq_1; refine goB ?_; clear FF
  refine zfe (fun o => o.dst == some 9 || o.dst == some 14 || o.dst == some 16) mixed (by decide +kernel) ?_
  have FF := ze.eq_1; refine goB ?_; clear FF
  refine .inl ⟨_, .inl (zc5 _ _), ?_⟩
  have FF := ze.eq_1; refine goB ?_; clear FF
  refine .inl ⟨_, .inl (zc5 _ _), ?_⟩
  have FF := ze.eq_1; refine goB ?_; clear FF
  refine .inl ⟨_, .inr ⟨[zav [cmpI y.prio x.prio, cmpI x.id y.id] false], ?_, zmz _ _ _, rfl⟩, ?_⟩
  · exact ⟨_, _, rfl, .inr ⟨[.raw (.int .i64 (cmpI y.prio x.prio)), .raw (.int .i64 (cmpI x.id y.id))], by simp [St.new], by simp, by simp [zav, iAV]⟩, rfl⟩
  unfold zcs
  simp
  refine zkk ?_
  refine zC (.inr rfl) rfl (by simp (maxDischargeDepth := 30)) ?_
  simp
end Go.Proofs.YtckabcbfbpejkaaDoor.Av
namespace Go.Proofs.YtckabcbfbpejkaaDoor.Av
open Go
set_option linter.unusedSimpArgs false
set_option linter.unusedVariables false
set_option maxRecDepth 100000
set_option maxHeartbeats 1000000
set_option pp.maxSteps 300
def idxOf {T : Type} (p : T → Bool) (z : List T) : Int := if z.any p then (z.findIdx p : Nat) else -1
theorem zg8 {T : Type} {p : T → Bool} {z : List T} {i : Nat} {x : T} (hx : z[i]? = some x) (hp : p x = true) (hn : ∀ j, j < i → ∀ y, z[j]? = some y → p y = false) : idxOf p z = i := by
  unfold idxOf
  obtain ⟨hi, he⟩ := List.getElem?_eq_some_iff.1 hx
  rw [if_pos (List.any_eq_true.2 ⟨x, List.mem_of_getElem? hx, hp⟩)]
  congr 1
  rw [List.findIdx_eq hi]
  refine ⟨by rw [he]; exact hp, fun j hj => ?_⟩
  exact hn j hj _ (List.getElem?_eq_getElem (by omega))
theorem zg9 {T : Type} {p : T → Bool} {z : List T} (hn : ∀ j, j < z.length → ∀ y, z[j]? = some y → p y = false) : idxOf p z = -1 ∧ z.any p = false := by
  have : z.any p = false := by
    rw [List.any_eq_false]
    intro x hx
    obtain ⟨j, hj⟩ := List.getElem?_of_mem hx
    simp [hn j (List.getElem?_eq_some_iff.1 hj).1 x hj]
  exact ⟨by unfold idxOf; rw [this]; rfl, this⟩
theorem zb (r : Ru) : (ze r).cells = [.raw (.int .i64 r.id), .raw (.int .i64 r.dev), .raw (.int .i64 r.prio), .raw (.int .i64 r.kind), .raw (.int .u32 r.r.lo), .raw (.int .u32 r.r.hi), .raw (.int .i64 r.port)] := rfl
theorem ziF {g : FuncId} {caps : List AV} {p : Ru → Bool} (z : List Ru) (fz : Bool) (hl : z.length < 2 ^ 60) (hg : ∀ r ∈ z, PCalls Tryd.prog g (ze r :: caps) (.raw (.bool (p r)))) :
    PCalls Tryd.prog 96 [za z fz, .fn (.func g) [] caps] (.raw (.int .i64 (idxOf p z))) := by
  refine zM Tryd.func96 rfl (N := 19) rfl rfl (by simp) (by simp [noIds]) fun σ => ?_
  have FF := za.eq_1; refine goB ?_; clear FF
  refine zao (fun n A τ => τ = σ ∧ A 0 = za z fz ∧ A 1 = .fn (.func g) [] caps ∧ A 7 = .raw (.int .i64 z.length) ∧ ∃ i : Nat, A 8 = .raw (.int .i64 i) ∧ i ≤ z.length ∧ n = z.length - i ∧ ∀ j, j < i → ∀ y, z[j]? = some y → p y = false) z.length ?_ ?_
  · exact ⟨rfl, by simp [za], by simp, by simp, 0, by simp, by omega, by omega, fun j h => by omega⟩
  rintro n A τ ⟨rfl, a0, a1, a7, i, a8, hi, rfl, hn⟩ I1 hI1
  by_cases hlt : i < z.length
  · have hx : z[i]? = some z[i] := List.getElem?_eq_getElem hlt
    have w1 : IntKind.i64.wrap ((i : Int) + 1) = ((i + 1 : Nat) : Int) := by rw [zS (by omega) (by omega)]; omega
    have hr : AV.agg [.raw (.int .i64 z[i].id), .raw (.int .i64 z[i].dev), .raw (.int .i64 z[i].prio), .raw (.int .i64 z[i].kind), .raw (.int .u32 z[i].r.lo), .raw (.int .u32 z[i].r.hi), .raw (.int .i64 z[i].port)] = ze z[i] := rfl
    (try ((first | with_reducible refine zu ?_ | with_reducible refine zA ?_ | with_reducible refine zB ?_); simp [za, a0, a1, a7, a8, hlt, hx, zb, hr])); repeat' (first | ((first | refine zn ?_ | refine zr ?_ | refine dN (by decide +kernel) ?_ | (refine zd ?_ ?_ <;> (intro hg; simp only [hg])) | fail) <;> simp [za, a0, a1, a7, a8, hlt, hx, zb, hr]) | refine zp ?_ | refine zl ?_ | (refine zG ?_; simp only [zH]; try simp) | ((first | refine zy (by simp) ?_ | refine zC (by simp) (by simp) (by simp (maxDischargeDepth := 30) [za, a0, a1, a7, a8, hlt, hx, zb, hr]) ?_ | fail); simp) | (refine zg (fun hc => ?_) (fun hc => ?_) <;> try simp at hc) | fail)
    refine PCalls.use (hg z[i] (List.getElem_mem _)) ?_
    cases hp : p z[i] with
    | true =>
      have FF := fI za.eq_1 (fI @a0 (fI @a1 (fI @a7 (fI @a8 (fI @hlt (fI @hx (fI @zb @hr))))))); refine goB ?_; clear FF
      exact (zg8 hx hp hn).symm
    | false =>
      have FF := fI za.eq_1 (fI @a0 (fI @a1 (fI @a7 (fI @a8 (fI @hlt (fI @hx (fI @zb @hr))))))); refine goB ?_; clear FF
      refine hI1 (z.length - (i + 1)) _ _ (by omega) ⟨rfl, by simp [a0], by simp [a1], by simp [a7], i + 1, by simp [w1], by omega, rfl, fun j hj y hy => ?_⟩
      by_cases e : j = i
      · subst e; rw [hx] at hy; injection hy with hy; subst hy; exact hp
      · exact hn j (by omega) y hy
  · have hi' : i = z.length := by omega
    subst hi'
    have w1 : IntKind.i64.wrap (-1) = -1 := zS (by omega) (by omega)
    have FF := fI za.eq_1 (fI @a0 (fI @a1 (fI @a7 (fI @a8 @w1)))); refine goB ?_; clear FF
    exact (zg9 hn).1.symm
end Go.Proofs.YtckabcbfbpejkaaDoor.Av
namespace Go.Proofs.YtckabcbfbpejkaaDoor.Av
open Go
set_option linter.unusedSimpArgs false
set_option linter.unusedVariables false
set_option maxRecDepth 100000
set_option maxHeartbeats 2000000
set_option pp.maxSteps 300
theorem zkV {P : Program} {f : FuncId} {sz : Nat} {fl : Bool} {σ : St} {K : AV → St → Prop} (h : ∀ b cap, ACalls P f [.raw (.slice b 0 cap)] σ K) : ACalls P f [.sl sz [] fl] σ K := by
  refine ⟨(h none 0).1, fun S vs hS hl => ?_⟩
  simp only [LRel, VRel] at hl
  obtain ⟨v, us, rfl, ⟨base, cap, rfl, _⟩, rfl⟩ := hl
  exact (h base cap).2 S _ hS ⟨_, _, rfl, rfl, rfl⟩
theorem zpt : ∀ z : List Ru, zJ (zm (z.map ze)) = true := fun z => by
  induction z with
  | nil => rfl
  | cons r z ih => simp [zm, ze, zJ, cellOK] at ih ⊢; try exact ih
theorem ziG (l : List Ru) (f : Bool) {σ : St} {K : AV → St → Prop} (hl : l.length < 2932031007403) (h : ∀ v τ, OwnL σ τ 7 v (l.map ze) → Ext σ τ → K v τ) : ACalls Tryd.prog 82 [za l f] σ K := by
  cases l with
  | nil =>
    simp only [za, List.map_nil]
    refine zkV fun b cap => ?_
    refine zkP Tryd.func82 rfl (N := 8) rfl rfl (by simp) ?_
    cases b with
    | none =>
      refine zqF ?_
      exact zeg (.inr rfl) (by simp) (h _ _ OwnL.nil (Ext.refl _))
    | some b =>
      (try ((first | with_reducible refine zu ?_ | with_reducible refine zA ?_ | with_reducible refine zB ?_); simp [-zI])); repeat' (first | ((first | refine zn ?_ | refine zr ?_ | refine dN (by decide +kernel) ?_ | (refine zd ?_ ?_ <;> (intro hg; simp only [hg])) | fail) <;> simp [-zI]) | refine zp ?_ | refine zl ?_ | (refine zG ?_; simp only [zH]; try simp) | (refine zg (fun hc => ?_) (fun hc => ?_) <;> try simp at hc) | fail)
      refine zcq zkT (σ0 := σ) (es := []) (OwnL.of rfl (by simp) (zw _ _ _) rfl) (Ext.new _ _ _ _) (ys := []) (by simp) (.inl rfl) rfl (by simp) ?_
      intro v1 τ1 hO1 hE1 _ _
      rw [List.nil_append] at hO1
      (try ((first | with_reducible refine zu ?_ | with_reducible refine zA ?_ | with_reducible refine zB ?_); simp [-zI])); repeat' (first | ((first | refine zn ?_ | refine zr ?_ | refine dN (by decide +kernel) ?_ | (refine zd ?_ ?_ <;> (intro hg; simp only [hg])) | fail) <;> simp [-zI]) | refine zp ?_ | refine zl ?_ | (refine zG ?_; simp only [zH]; try simp) | (refine zg (fun hc => ?_) (fun hc => ?_) <;> try simp at hc) | fail)
      exact zeg (.inr rfl) (by simp) (h _ _ hO1 hE1)
  | cons r l =>
    refine zkP Tryd.func82 rfl (N := 8) rfl rfl (by simp) ?_
    (try ((first | with_reducible refine zu ?_ | with_reducible refine zA ?_ | with_reducible refine zB ?_); simp [za, -zI])); repeat' (first | ((first | refine zn ?_ | refine zr ?_ | refine dN (by decide +kernel) ?_ | (refine zd ?_ ?_ <;> (intro hg; simp only [hg])) | fail) <;> simp [za, -zI]) | refine zp ?_ | refine zl ?_ | (refine zG ?_; simp only [zH]; try simp) | (refine zg (fun hc => ?_) (fun hc => ?_) <;> try simp at hc) | fail)
    refine zcq zkT (σ0 := σ) (es := []) (OwnL.of rfl (by simp) (zw _ _ _) rfl) (Ext.new _ _ _ _) (ys := (r :: l).map ze) (by simp) (.inr rfl) (zpt _) (by simp at hl ⊢; omega) ?_
    intro v1 τ1 hO1 hE1 _ _
    rw [List.nil_append] at hO1
    (try ((first | with_reducible refine zu ?_ | with_reducible refine zA ?_ | with_reducible refine zB ?_); simp [-zI])); repeat' (first | ((first | refine zn ?_ | refine zr ?_ | refine dN (by decide +kernel) ?_ | (refine zd ?_ ?_ <;> (intro hg; simp only [hg])) | fail) <;> simp [-zI]) | refine zp ?_ | refine zl ?_ | (refine zG ?_; simp only [zH]; try simp) | (refine zg (fun hc => ?_) (fun hc => ?_) <;> try simp at hc) | fail)
    exact zeg (.inr rfl) (by simp) (h _ _ hO1 hE1)
def zay : List Ru → Ru
  | [] => ⟨0, 0, 0, 0, ⟨0, 0⟩, 0⟩
  | r :: l => l.foldl (fun m x => if zcs x m < 0 then x else m) r
theorem zim {z : List Ru} {k : Nat} {x : Ru} (h1 : 1 ≤ k) (hx : z[k]? = some x) : zay (z.take (k + 1)) = if zcs x (zay (z.take k)) < 0 then x else zay (z.take k) := by
  rw [List.take_add_one, hx]
  cases z with
  | nil => simp at hx
  | cons r l =>
    obtain ⟨j, rfl⟩ : ∃ j, k = j + 1 := ⟨k - 1, by omega⟩
    simp [zay, List.foldl_append]
    rfl
theorem zf (x : Ru) : AV.agg [.raw (.int .i64 x.id), .raw (.int .i64 x.dev), .raw (.int .i64 x.prio), .raw (.int .i64 x.kind), .raw (.int .u32 x.r.lo), .raw (.int .u32 x.r.hi), .raw (.int .i64 x.port)] = ze x := rfl
theorem zcJ (a b : Ru) : setPart (ze a) 0 [.raw (.int .i64 b.id), .raw (.int .i64 b.dev), .raw (.int .i64 b.prio), .raw (.int .i64 b.kind), .raw (.int .u32 b.r.lo), .raw (.int .u32 b.r.hi), .raw (.int .i64 b.port)] = ze b := rfl
theorem zaY (a : Ru) : zJ (ze a).cells = true := rfl
theorem ziH (z : List Ru) (hne : z ≠ []) (f : Bool) (hl : z.length < 2932031007403) : PCalls Tryd.prog 84 [za z f, .fn (.func 85) [] []] (ze (zay z)) := by
  refine zM Tryd.func84 rfl (N := 33) rfl rfl (by simp) (by simp [noIds, ze]) fun σ => ?_
  have hpos : 0 < z.length := List.length_pos_iff.2 hne
  have hx0 : z[0]? = some z[0] := List.getElem?_eq_getElem hpos
  have hlt1 : ¬ ((z.length : Int) < 1) := by omega
  (try ((first | with_reducible refine zu ?_ | with_reducible refine zA ?_ | with_reducible refine zB ?_); simp [za, zb, hx0, hlt1, hpos])); repeat' (first | ((first | refine zn ?_ | refine zr ?_ | refine dN (by decide +kernel) ?_ | (refine zd ?_ ?_ <;> (intro hg; simp only [hg])) | fail) <;> simp [za, zb, hx0, hlt1, hpos]) | refine zp ?_ | refine zl ?_ | (refine zG ?_; simp only [zH]; try simp) | ((first | refine zy (by simp) ?_ | refine zC (by simp) (by simp) (by simp (maxDischargeDepth := 30) [za, zb, hx0, hlt1, hpos]) ?_ | fail); simp) | (refine zg (fun hc => ?_) (fun hc => ?_) <;> try simp at hc) | fail)
  refine zao (fun n A τ => A 0 = za z f ∧ A 1 = .fn (.func 85) [] [] ∧ A 4 = .rp ⟨4, σ.nx 4, 7⟩ 0 0 ∧ A 5 = .rp ⟨5, σ.nx 5, 7⟩ 0 0 ∧ (∃ y, τ.m ⟨4, σ.nx 4, 7⟩ = some (.buf [ze y])) ∧ Ext σ τ ∧
    ∃ (k : Nat), A 6 = .raw (.int .i64 k) ∧ 1 ≤ k ∧ k ≤ z.length ∧ τ.m ⟨5, σ.nx 5, 7⟩ = some (.buf [ze (zay (z.take k))]) ∧ n = z.length - k) (z.length - 1) ?_ ?_
  · refine ⟨by simp [za], by simp, by simp, by simp [St.new], ⟨⟨0, 0, 0, 0, ⟨0, 0⟩, 0⟩, ?_⟩, ?_, 1, by simp, by omega, by omega, ?_, ?_⟩
    · simp [St.new, St.set, ze]
    · refine Ext.setF (by simp (maxDischargeDepth := 30)) ?_
      have := zw σ 5 7
      simpa [St.new] using this
    · have e : z.take 1 = [z[0]] := by
        cases z with
        | nil => exact absurd rfl hne
        | cons r l => rfl
      rw [e]
      simp [St.new, St.set, zay, ze]
    · rfl
  rintro n A τ ⟨a0, a1, a4, a5, ⟨y, m4⟩, hE, k, a6, h1, hk, m5, rfl⟩ I1 hI1
  have f4 : σ.m ⟨4, σ.nx 4, 7⟩ = none := zw _ _ _
  have f5 : σ.m ⟨5, σ.nx 5, 7⟩ = none := zw _ _ _
  by_cases hlt : k < z.length
  · have hx : z[k]? = some z[k] := List.getElem?_eq_getElem hlt
    have w1 : IntKind.i64.wrap ((k : Int) + 1) = ((k + 1 : Nat) : Int) := by rw [zS (by omega) (by omega)]; omega
    (try ((first | with_reducible refine zu ?_ | with_reducible refine zA ?_ | with_reducible refine zB ?_); simp [za, a0, a1, a4, a5, a6, hlt, hx, m4, m5, zb, zf])); repeat' (first | ((first | refine zn ?_ | refine zr ?_ | refine dN (by decide +kernel) ?_ | (refine zd ?_ ?_ <;> (intro hg; simp only [hg])) | fail) <;> simp [za, a0, a1, a4, a5, a6, hlt, hx, m4, m5, zb, zf]) | refine zp ?_ | refine zl ?_ | (refine zG ?_; simp only [zH]; try simp) | ((first | refine zy (by simp) ?_ | refine zC (by simp) (by simp) (by simp (maxDischargeDepth := 30) [za, a0, a1, a4, a5, a6, hlt, hx, m4, m5, zb, zf]) ?_ | fail); simp) | (refine zg (fun hc => ?_) (fun hc => ?_) <;> try simp at hc) | fail)
    refine PCalls.use (zj9 _ _) ?_
    by_cases hs : zcs z[k] (zay (z.take k)) < 0
    · (try ((first | with_reducible refine zu ?_ | with_reducible refine zA ?_ | with_reducible refine zB ?_); simp [za, a0, a1, a4, a5, a6, hlt, hx, m4, m5, zb, zf, zcJ, hs, w1])); repeat' (first | ((first | refine zn ?_ | refine zr ?_ | refine dN (by decide +kernel) ?_ | (refine zd ?_ ?_ <;> (intro hg; simp only [hg])) | fail) <;> simp [za, a0, a1, a4, a5, a6, hlt, hx, m4, m5, zb, zf, zcJ, hs, w1]) | refine zp ?_ | refine zl ?_ | (refine zG ?_; simp only [zH]; try simp) | ((first | refine zy (by simp) ?_ | refine zC (by simp) (by simp) (by simp (maxDischargeDepth := 30) [za, a0, a1, a4, a5, a6, hlt, hx, m4, m5, zb, zf, zcJ, hs, w1]) ?_ | fail); simp) | (refine zg (fun hc => ?_) (fun hc => ?_) <;> try simp at hc) | fail)
      exact hI1 (z.length - (k + 1)) _ _ (by omega) ⟨by simp [a0], by simp [a1], by simp [a4], by simp [a5], ⟨y, by rw [zn2 (by simp)]; exact m4⟩, hE.setF f5, k + 1, by simp, by omega, by omega, by rw [zkm m5, zim h1 hx, if_pos hs], rfl⟩
    · have FF := fI za.eq_1 (fI @a0 (fI @a1 (fI @a4 (fI @a5 (fI @a6 (fI @hlt (fI @hx (fI @m4 (fI @m5 (fI @zb (fI @zf (fI @zcJ (fI @hs @w1))))))))))))); refine goB ?_; clear FF
      exact hI1 (z.length - (k + 1)) _ _ (by omega) ⟨by simp [a0], by simp [a1], by simp [a4], by simp [a5], ⟨y, m4⟩, hE, k + 1, by simp, by omega, by omega, by rw [m5, zim h1 hx, if_neg hs], rfl⟩
  · have : k = z.length := by omega
    subst this
    rw [List.take_length] at m5
    have FF := fI za.eq_1 (fI @a0 (fI @a1 (fI @a4 (fI @a5 (fI @a6 (fI @m4 (fI @m5 (fI @zb (fI @zf @zcJ))))))))); refine goC ?_; clear FF
    refine zC (.inr rfl) rfl (hE.setF f4) ?_
    simp [a4, m4, St.set, zb]
    exact zf _
theorem ACalls.args {P : Program} {f : FuncId} {as_ bs : List AV} {σ : St} {K : AV → St → Prop} (hw : ∀ S vs, LRel S as_ vs → LRel S bs vs) (h : ACalls P f bs σ K) : ACalls P f as_ σ K :=
  ⟨h.1, fun S vs hS hl => h.2 S vs hS (hw S vs hl)⟩
def OwnP (σ0 τ : St) (n : Nat) (v : AV) (es : List AV) : Prop :=
  (es = [] ∧ v = .sl 0 [] true) ∨ ∃ j rest, v = .rs j 0 es.length ∧ j.sz = n ∧ τ.m j = some (.buf (es ++ rest)) ∧ σ0.m j = none
theorem OwnL.toP {σ0 τ : St} {n : Nat} {v : AV} {es : List AV} (h : OwnL σ0 τ n v es) : OwnP σ0 τ n v es := by
  rcases h with h | ⟨j, h1, h2, h3, h4⟩
  · exact .inl h
  · exact .inr ⟨j, [], h1, h2, by rw [List.append_nil]; exact h3, h4⟩
theorem OwnP.ext {σ0 τ ρ : St} {n : Nat} {v : AV} {es : List AV} (h : OwnP σ0 τ n v es) (k : Ext τ ρ) : OwnP σ0 ρ n v es := by
  rcases h with h | ⟨j, r, h1, h2, h3, h4⟩
  · exact .inl h
  · exact .inr ⟨j, r, h1, h2, k.m _ _ h3, h4⟩
theorem PCalls.useP {P : Program} {f : FuncId} {σ0 σ : St} {n : Nat} {a v r : AV} {es : List AV} {K : AV → St → Prop} (h : PCalls P f [.sl n es false, a] r) (hr : r.plain = true) (hO : OwnP σ0 σ n v es) (k : K r σ) : ACalls P f [v, a] σ K := by
  rcases hO with ⟨rfl, rfl⟩ | ⟨j, rest, rfl, hj, hm, hn⟩
  · refine ACalls.args (bs := [.sl n [] false, a]) (fun S vs hl => ?_) (h.use k)
    simp only [LRel] at hl ⊢
    obtain ⟨w, ws, e2, h2, v, us, e, h1, h3⟩ := hl
    exact ⟨w, ws, e2, zcd _ _ h2, v, us, e, h1, h3⟩
  · refine RCalls.use (.inr ⟨[.sl n es false, a], ?_, h, hr⟩) k
    simp only [zbR]
    exact ⟨_, _, rfl, .inr ⟨es ++ rest, hm, by simp, by simp [hj]⟩, _, _, rfl, .inl rfl, rfl⟩
theorem zjq {g : FuncId} {caps : List AV} {p : Ru → Bool} (l : List Ru) {σ0 σ : St} {v : AV} {K : AV → St → Prop} (hO : OwnL σ0 σ 7 v (l.map ze)) (hE : Ext σ0 σ) (hl : l.length < 2932031007403)
    (hg : ∀ r ∈ l, PCalls Tryd.prog g (ze r :: caps) (.raw (.bool (p r)))) (h : ∀ v' τ, OwnP σ0 τ 7 v' ((l.filter fun r => !p r).map ze) → Ext σ0 τ → K v' τ) : ACalls Tryd.prog 81 [v, .fn (.func g) [] caps] σ K := by
  refine zkP Tryd.func81 rfl (N := 42) rfl rfl (by simp) ?_
  refine zmy ?_
  refine PCalls.useP (ziF l false (by omega) hg) rfl hO.toP ?_
  cases ha : l.any p with
  | false =>
    have hi : idxOf p l = -1 := by unfold idxOf; rw [ha]; rfl
    have hfl : (l.filter fun r => !p r) = l := by
      rw [List.filter_eq_self]
      intro r hr
      rw [List.any_eq_false] at ha
      simpa using ha r hr
    have w1 : IntKind.i64.wrap (-1) = -1 := zS (by omega) (by omega)
    rw [hfl] at h
    have FF := fI @hi @w1; refine goC ?_; clear FF
    exact zeg (.inr rfl) (by simp) (h _ _ hO.toP hE)
  | true =>
    have hi : idxOf p l = (l.findIdx p : Nat) := by unfold idxOf; rw [ha]; rfl
    have hlt0 : l.findIdx p < l.length := List.findIdx_lt_length.2 (by simpa using ha)
    obtain ⟨i0, hi0⟩ : ∃ i0, l.findIdx p = i0 := ⟨_, rfl⟩
    rw [hi0] at hi hlt0
    have hne : ¬ ((i0 : Int) = -1) := by omega
    have w0 : IntKind.i64.wrap ((i0 : Int) + 1) = ((i0 + 1 : Nat) : Int) := by rw [zS (by omega) (by omega)]; omega
    have w1 : IntKind.i64.wrap (-1) = -1 := zS (by omega) (by omega)
    rcases hO with ⟨he, _⟩ | ⟨j, hv, hj, hm, hn⟩
    · have : l = [] := by simpa using he
      subst this
      simp at ha
    rw [List.length_map] at hv
    subst hv
    have FF := fI @hi (fI @w1 (fI @hne @w0)); refine goB ?_; clear FF
    have hfirst : ∀ r ∈ l.take i0, p r = false := fun r hr => by
      obtain ⟨q, hq⟩ := List.getElem?_of_mem hr
      obtain ⟨hq1, hq2⟩ := List.getElem?_eq_some_iff.1 hq
      rw [List.length_take] at hq1
      rw [List.getElem_take] at hq2
      have := List.not_of_lt_findIdx (p := p) (xs := l) (i := q) (by omega)
      rw [hq2] at this
      simpa using this
    have hp0 : p l[i0] = true := by
      have := List.findIdx_getElem (p := p) (xs := l) (w := by omega)
      simpa only [hi0] using this
    have htk : ∀ k, (hk : k < l.length) → (l.take (k + 1)).filter (fun r => !p r) = (l.take k).filter (fun r => !p r) ++ if p l[k] = true then [] else [l[k]] := fun k hk => by
      rw [List.take_add_one, List.getElem?_eq_getElem hk, List.filter_append]
      congr 1
      cases hb : p l[k] <;> simp [hb]
    refine zao (fun n A τ => A 0 = .rs j 0 l.length ∧ A 1 = .fn (.func g) [] caps ∧ Ext σ0 τ ∧ ∃ (k : Nat) (q : List Ru), A 6 = .raw (.int .i64 k) ∧ A 5 = .raw (.int .i64 (((l.take k).filter fun r => !p r).length : Nat)) ∧ k ≤ l.length ∧
      ((l.take k).filter fun r => !p r).length < k ∧ q.length = l.length ∧ q.take ((l.take k).filter fun r => !p r).length = (l.take k).filter (fun r => !p r) ∧ q.drop k = l.drop k ∧ τ.m j = some (.buf (q.map ze)) ∧ n = l.length - k) (l.length - (i0 + 1)) ?_ ?_
    · have e1 : (l.take (i0 + 1)).filter (fun r => !p r) = l.take i0 := by
        rw [htk i0 hlt0, if_pos hp0, List.append_nil, List.filter_eq_self]
        intro r hr; simp [hfirst r hr]
      refine ⟨by simp, by simp, hE, i0 + 1, l, by simp, ?_, by omega, ?_, rfl, ?_, rfl, hm, rfl⟩
      · rw [e1, List.length_take, Nat.min_eq_left (by omega)]; simp
      · rw [e1, List.length_take, Nat.min_eq_left (by omega)]; omega
      · rw [e1, List.length_take, Nat.min_eq_left (by omega)]
    rintro n A τ ⟨a0, a1, hE, k, q, a6, a5, hk, hik, hq, hq1, hq2, hmq, rfl⟩ I1 hI1
    obtain ⟨i, hii⟩ : ∃ i, ((l.take k).filter fun r => !p r).length = i := ⟨_, rfl⟩
    rw [hii] at a5 hik hq1
    by_cases hlt : k < l.length
    · have hx : q[k]? = some l[k] := by
        have := congrArg (·[0]?) hq2
        simpa [List.getElem?_drop, List.getElem?_eq_getElem hlt] using this
      have hxi : q[i]? = some q[i] := List.getElem?_eq_getElem (by omega)
      have w2 : IntKind.i64.wrap ((k : Int) + 1) = ((k + 1 : Nat) : Int) := by rw [zS (by omega) (by omega)]; omega
      have w3 : IntKind.i64.wrap ((i : Int) + 1) = ((i + 1 : Nat) : Int) := by rw [zS (by omega) (by omega)]; omega
      have hjf : j ≠ ⟨7, τ.nx 7, 7⟩ := fun e => by rw [e, zw] at hmq; cases hmq
      have hil : i < l.length := by omega
      have FF := fI @a0 (fI @a1 (fI @a6 (fI @a5 (fI @hlt (fI @hx (fI @hmq (fI @hj (fI @hjf (fI @zb (fI @zf (fI @w2 @w3))))))))))); refine goB ?_; clear FF
      refine PCalls.use (hg l[k] (List.getElem_mem _)) ?_
      cases hpk : p l[k] with
      | true =>
        have FF := fI @a0 (fI @a1 (fI @a6 (fI @a5 (fI @hlt (fI @hx (fI @hmq (fI @hj (fI @hjf (fI @zb (fI @zf (fI @w2 @w3))))))))))); refine goB ?_; clear FF
        have e := htk k hlt
        rw [if_pos hpk, List.append_nil] at e
        refine hI1 (l.length - (k + 1)) _ _ (by omega) ⟨by simp [a0], by simp [a1], by simp [hE], k + 1, q, by simp, by rw [e, hii]; simp [a5], by omega, by rw [e, hii]; omega, hq, by rw [e, hii]; exact hq1, ?_, by simp [St.set, St.new, hjf, hmq], rfl⟩
        have := congrArg (List.drop 1) hq2
        simpa [List.drop_drop, Nat.add_comm] using this
      | false =>
        have hsp : setPart (ze q[i]) 0 (ze l[k]).cells = ze l[k] := rfl
        rw [zb] at hsp
        have FF := fI @a0 (fI @a1 (fI @a6 (fI @a5 (fI @hlt (fI @hil (fI @hx (fI @hxi (fI @hmq (fI @hj (fI @hjf (fI @zb (fI @zf (fI @hsp (fI @w2 @w3)))))))))))))); refine goB ?_; clear FF
        have e := htk k hlt
        rw [if_neg (by simp [hpk])] at e
        have el : (((l.take k).filter fun r => !p r) ++ [l[k]]).length = i + 1 := by rw [List.length_append, hii]; rfl
        refine hI1 (l.length - (k + 1)) _ _ (by omega) ⟨by simp [a0], by simp [a1], Ext.setF (by simp [hE]) hn, k + 1, q.set i l[k], by simp, by rw [e, el]; simp, by omega, by rw [e, el]; omega, by simpa using hq, ?_, ?_, by simp [St.set, St.new, hjf, hmq, List.map_set], rfl⟩
        · rw [e, el, ← hq1, List.take_succ_eq_append_getElem (by simp; omega)]
          simp
          rw [List.take_set, List.set_eq_of_length_le (by simp; omega)]
        · have := congrArg (List.drop 1) hq2
          rw [List.drop_set_of_lt (by omega)]
          simpa [List.drop_drop, Nat.add_comm] using this
    · have : k = l.length := by omega
      subst this
      rw [List.take_length] at *
      have hil : i ≤ l.length := by omega
      obtain ⟨m, hm'⟩ : ∃ m, l.length - i = m + 1 := ⟨l.length - i - 1, by omega⟩
      have ecut : zdK j 0 i l.length = .rs j i (m + 1) := by unfold zdK; rw [if_pos (.inr (by omega)), hm', Nat.zero_add]
      obtain ⟨rest, hcl⟩ : ∃ rest, zdm Tryd.prog τ.m 58 (.rs j i (m + 1)) = some (.wrv j ((l.filter fun r => !p r).map ze ++ rest) (.tup [])) := by
        have hle : i + (m + 1) ≤ q.length := by omega
        refine ⟨List.replicate (m + 1) (ze ⟨0, 0, 0, 0, ⟨0, 0⟩, 0⟩) ++ (q.map ze).drop (i + (m + 1)), ?_⟩
        rw [← hq1, List.map_take]
        simp [zdm, hmq, hj, zJ, cellOK, hle, ze]
      have FF := fI @a0 (fI @a1 (fI @a6 (fI @a5 (fI @hj (fI @hil (fI @ecut @hcl)))))); refine goC ?_; clear FF
      have ec0 : zdK j 0 0 i = .rs j 0 ((l.filter fun r => !p r).map ze).length := by
        unfold zdK; rw [if_pos (.inl rfl), List.length_map, hii]; simp
      exact zeg (.inr rfl) (x := zdK j 0 0 i) (by simp) (by
        rw [ec0]
        exact h _ _ (.inr ⟨j, rest, rfl, hj, zkm hmq, hn⟩) (Ext.setF hE hn))
end Go.Proofs.YtckabcbfbpejkaaDoor.Av
namespace Go.Proofs.YtckabcbfbpejkaaDoor.Av
open Go
set_option linter.unusedSimpArgs false
set_option linter.unusedVariables false
set_option maxRecDepth 100000
set_option maxHeartbeats 2000000
set_option pp.maxSteps 300
theorem zhQ {g : FuncId} {caps : List AV} {p : Ru → Bool} (r : Ru) (hg : PCalls Tryd.prog g (ze r :: caps) (.raw (.bool (p r)))) : PCalls Tryd.prog 83 [ze r, .pp [.fn (.func g) [] caps] 0] (.raw (.bool (!p r))) := by
  refine zM Tryd.func83 rfl (N := 8) rfl rfl (by simp) (by simp [noIds]) fun σ => ?_
  have FF := fI @zb @zaY; refine goB ?_; clear FF
  rw [zf]
  refine PCalls.use hg ?_
  exact zhO
theorem zfZ {g : FuncId} {caps : List AV} {p : Ru → Bool} (l : List Ru) (f : Bool) (hl : l.length < 2932031007403) (hg : ∀ r ∈ l, PCalls Tryd.prog g (ze r :: caps) (.raw (.bool (p r)))) :
    PCalls Tryd.prog 62 [za l f, .fn (.func g) [] caps] (.tup [ze (zay (l.filter p)), .raw (.bool (l.any p))]) := by
  refine zM Tryd.func62 rfl (N := 16) rfl rfl (by simp) (by simp [noIds, ze]) fun σ => ?_
  repeat (refine zp ?_)
  refine zr ?_
  simp
  refine zbv ⟨3, σ.nx 3, 1⟩ ?_
  generalize hτ : St.del _ _ = τ
  generalize hA : (fun t => zz _ _ _) = A
  have a0 : A 0 = za l f := by rw [← hA]; simp [za]
  have a3 : A 3 = .pp [.fn (.func g) [] caps] 0 := by rw [← hA, ← hτ]; simp [zz, St.new, St.del]
  have a4 : A 4 = .rp ⟨4, σ.nx 4, 7⟩ 0 0 := by rw [← hA, ← hτ]; simp [zz, St.new, St.del]
  have m4 : τ.m ⟨4, σ.nx 4, 7⟩ = some (.buf [ze ⟨0, 0, 0, 0, ⟨0, 0⟩, 0⟩]) := by rw [← hτ]; simp [St.new, St.del, ze]
  have hE : Ext σ τ := by
    rw [← hτ]
    refine ⟨fun i o h => ?_, fun s => ?_⟩
    · rw [zQ (fun e => by rw [e, zw] at h; cases h)]
      exact zaV _ _ (zaV _ _ h)
    · exact Nat.le_trans (St.new_le σ 3 1 (.buf [.fn (.func g) [] caps]) s) (St.new_le (σ.new 3 1 (.buf [.fn (.func g) [] caps])) 4 7 (.buf [ze ⟨0, 0, 0, 0, ⟨0, 0⟩, 0⟩]) s)
  clear hτ hA
  have f4 : σ.m ⟨4, σ.nx 4, 7⟩ = none := zw _ _ _
  have FF := fI @a0 (fI @a3 (fI @a4 @m4)); refine goB ?_; clear FF
  refine ziG l f hl fun v τ1 hO hE1 => ?_
  have FF := fI @a0 (fI @a3 @a4); refine goB ?_; clear FF
  refine zjq (σ0 := τ) l hO hE1 hl (fun r hr => zhQ r (hg r hr)) fun v' τ2 hP hE2 => ?_
  have hfl : (l.filter fun r => !(!p r)) = l.filter p := by simp
  rw [hfl] at hP
  have m4' : τ2.m ⟨4, σ.nx 4, 7⟩ = some (.buf [ze ⟨0, 0, 0, 0, ⟨0, 0⟩, 0⟩]) := hE2.m _ _ m4
  have hE3 : Ext σ τ2 := hE.trans hE2
  cases ha : l.any p with
  | false =>
    have hnil : l.filter p = [] := by
      rw [List.filter_eq_nil_iff]
      intro r hr
      rw [List.any_eq_false] at ha
      exact ha r hr
    rw [hnil] at hP ⊢
    have hlen : ∃ z, (v' = .sl 0 [] true ∨ v' = .rs z 0 0) := by
      rcases hP with ⟨_, h⟩ | ⟨z, rest, h, _⟩
      · exact ⟨⟨0, 0, 0⟩, .inl h⟩
      · exact ⟨z, .inr h⟩
    have hz : setPart (ze ⟨0, 0, 0, 0, ⟨0, 0⟩, 0⟩) 0 [.raw (.int .i64 0), .raw (.int .i64 0), .raw (.int .i64 0), .raw (.int .i64 0), .raw (.int .u32 0), .raw (.int .u32 0), .raw (.int .i64 0)] = ze ⟨0, 0, 0, 0, ⟨0, 0⟩, 0⟩ := rfl
    obtain ⟨z, rfl | rfl⟩ := hlen
    · have FF := fI @a0 (fI @a3 (fI @a4 @m4')); refine goC ?_; clear FF
      exact zC (.inr rfl) rfl (hE3.setF f4) (by simp [a4, m4', St.set, zay, hz, zb]; rfl)
    · have FF := fI @a0 (fI @a3 (fI @a4 @m4')); refine goC ?_; clear FF
      exact zC (.inr rfl) rfl (hE3.setF f4) (by simp [a4, m4', St.set, zay, hz, zb]; rfl)
  | true =>
    have hne : l.filter p ≠ [] := by
      intro e
      rw [List.filter_eq_nil_iff] at e
      obtain ⟨r, hr, h⟩ := List.any_eq_true.1 ha
      exact e r hr h
    have hlf : (l.filter p).length ≤ l.length := List.length_filter_le _ _
    have hmin := ziH (l.filter p) hne false (by omega)
    have hpos : 0 < (l.filter p).length := List.length_pos_iff.2 hne
    have hP' := hP
    rcases hP with ⟨h, _⟩ | ⟨z, rest, rfl, hz7, hz, hzn⟩
    · exact absurd (by simpa using h) hne
    rw [List.length_map] at hP' ⊢
    have hl0 : ¬ ((l.filter p).length = 0) := by omega
    have FF := fI @a0 (fI @a3 (fI @a4 (fI @m4' @hl0))); refine goB ?_; clear FF
    refine PCalls.useP hmin rfl hP' ?_
    have FF := fI @a0 (fI @a3 (fI @a4 (fI @m4' (fI @zb @zcJ)))); refine goC ?_; clear FF
    exact zC (.inr rfl) rfl (hE3.setF f4) (by simp [a4, m4', St.set, zb]; exact zf _)
def zd3 (d a : Int) (r : Ru) : Bool := decide (1 < r.kind) && zcr r d a
def zaL (d a : Int) (r : Ru) : Bool := decide (r.kind ≤ 1) && zcr r d a
theorem zkW (r : Ru) (d a : Int) : PCalls Tryd.prog 65 [ze r, .pp [.raw (.int .i64 d)] 0, .pp [.raw (.int .u32 a)] 0] (.raw (.bool (zd3 d a r))) := by
  refine zM Tryd.func65 rfl (N := 14) rfl rfl (by simp) (by simp [noIds]) fun σ => ?_
  obtain ⟨b, hb⟩ : ∃ b, decide (1 < r.kind) = b := ⟨_, rfl⟩
  unfold zd3
  rw [hb]
  have FF := fI @zb (fI @zaY (fI @hb @zf)); refine goB ?_; clear FF
  refine PCalls.use (zfX r d a) ?_
  exact zhO
theorem zkX (r : Ru) (d a : Int) : PCalls Tryd.prog 63 [ze r, .pp [.raw (.int .i64 d)] 0, .pp [.raw (.int .u32 a)] 0] (.raw (.bool (zaL d a r))) := by
  refine zM Tryd.func63 rfl (N := 14) rfl rfl (by simp) (by simp [noIds]) fun σ => ?_
  obtain ⟨b, hb⟩ : ∃ b, decide (r.kind ≤ 1) = b := ⟨_, rfl⟩
  unfold zaL
  rw [hb]
  have FF := fI @zb (fI @zaY (fI @hb @zf)); refine goB ?_; clear FF
  refine PCalls.use (zfX r d a) ?_
  exact zhO
end Go.Proofs.YtckabcbfbpejkaaDoor.Av
namespace Go.Proofs.YtckabcbfbpejkaaDoor.Av
open Go
set_option linter.unusedSimpArgs false
set_option linter.unusedVariables false
set_option maxRecDepth 100000
set_option maxHeartbeats 2000000
set_option pp.maxSteps 300
def zbT (l : List Ru) (d a : Int) : Bool := l.any (zd3 d a) && decide ((zay (l.filter (zd3 d a))).kind = 3)
theorem zct (l : List Ru) (f : Bool) (d a : Int) (hl : l.length < 2932031007403) : PCalls Tryd.prog 40 [za l f, .raw (.int .i64 d), .raw (.int .u32 a)] (.raw (.bool (zbT l d a))) := by
  have hf := zfZ (g := 65) (caps := [.pp [.raw (.int .i64 d)] 0, .pp [.raw (.int .u32 a)] 0]) l f hl (fun r _ => zkW r d a)
  obtain ⟨b, hb⟩ : ∃ b, l.any (zd3 d a) = b := ⟨_, rfl⟩
  obtain ⟨m, hmm⟩ : ∃ m, zay (l.filter (zd3 d a)) = m := ⟨_, rfl⟩
  unfold zbT
  rw [hb, hmm] at hf ⊢
  refine zM Tryd.func40 rfl (N := 21) rfl rfl (by simp) (by simp [noIds]) fun σ => ?_
  repeat (refine zp ?_)
  refine zr ?_
  simp
  refine zbv ⟨4, σ.nx 4, 1⟩ ?_
  refine zbv ⟨5, σ.nx 5, 1⟩ ?_
  generalize hτ : St.del _ _ = τ
  generalize hA : (fun t => zz _ _ _) = A
  have a0 : A 0 = za l f := by rw [← hA]; simp [za]
  have a4 : A 4 = .pp [.raw (.int .i64 d)] 0 := by rw [← hA, ← hτ]; simp [zz, St.new, St.del]
  have a5 : A 5 = .pp [.raw (.int .u32 a)] 0 := by rw [← hA, ← hτ]; simp [zz, St.new, St.del]
  have hE : Ext σ τ := by
    rw [← hτ]
    refine ⟨fun i o h => ?_, fun s => ?_⟩
    · rw [zQ (fun e => by rw [e, zw] at h; cases h), zQ (fun e => by rw [e, zw] at h; cases h)]
      exact zaV _ _ (zaV _ _ h)
    · exact Nat.le_trans (St.new_le σ 4 1 (.buf [.raw (.int .i64 d)]) s) (St.new_le (σ.new 4 1 (.buf [.raw (.int .i64 d)])) 5 1 (.buf [.raw (.int .u32 a)]) s)
  clear hτ hA
  have FF := fI @a0 (fI @a4 @a5); refine goB ?_; clear FF
  refine PCalls.use hf ?_
  have FF := fI @a0 (fI @a4 (fI @a5 (fI @zb (fI @zaY @hE)))); exact goA
def zbg (l : List Ru) (d a : Int) : Ru := zay (l.filter (zaL d a))
def zbz (l : List Ru) (d a : Int) : Bool := l.any (zaL d a)
theorem zbE (l : List Ru) (f : Bool) (d a : Int) (hl : l.length < 2932031007403) : PCalls Tryd.prog 39 [za l f, .raw (.int .i64 d), .raw (.int .u32 a)] (.tup [ze (zbg l d a), .raw (.bool (zbz l d a))]) := by
  have hf := zfZ (g := 63) (caps := [.pp [.raw (.int .i64 d)] 0, .pp [.raw (.int .u32 a)] 0]) l f hl (fun r _ => zkX r d a)
  unfold zbg zbz
  obtain ⟨b, hb⟩ : ∃ b, l.any (zaL d a) = b := ⟨_, rfl⟩
  obtain ⟨m, hmm⟩ : ∃ m, zay (l.filter (zaL d a)) = m := ⟨_, rfl⟩
  rw [hb, hmm] at hf ⊢
  refine zM Tryd.func39 rfl (N := 13) rfl rfl (by simp) (by simp [noIds, ze]) fun σ => ?_
  repeat (refine zp ?_)
  refine zr ?_
  simp
  refine zbv ⟨4, σ.nx 4, 1⟩ ?_
  refine zbv ⟨5, σ.nx 5, 1⟩ ?_
  generalize hτ : St.del _ _ = τ
  generalize hA : (fun t => zz _ _ _) = A
  have a0 : A 0 = za l f := by rw [← hA]; simp [za]
  have a4 : A 4 = .pp [.raw (.int .i64 d)] 0 := by rw [← hA, ← hτ]; simp [zz, St.new, St.del]
  have a5 : A 5 = .pp [.raw (.int .u32 a)] 0 := by rw [← hA, ← hτ]; simp [zz, St.new, St.del]
  have a6 : A 6 = .rp ⟨6, σ.nx 6, 7⟩ 0 0 := by rw [← hA, ← hτ]; simp [zz, St.new, St.del]
  have m6 : τ.m ⟨6, σ.nx 6, 7⟩ = some (.buf [ze ⟨0, 0, 0, 0, ⟨0, 0⟩, 0⟩]) := by rw [← hτ]; simp [St.new, St.del, ze]
  have hE : Ext σ τ := by
    rw [← hτ]
    refine ⟨fun i o h => ?_, fun s => ?_⟩
    · rw [zQ (fun e => by rw [e, zw] at h; cases h), zQ (fun e => by rw [e, zw] at h; cases h)]
      exact zaV _ _ (zaV _ _ (zaV _ _ h))
    · exact Nat.le_trans (Nat.le_trans (St.new_le σ 4 1 (.buf [.raw (.int .i64 d)]) s) (St.new_le (σ.new 4 1 (.buf [.raw (.int .i64 d)])) 5 1 (.buf [.raw (.int .u32 a)]) s)) (St.new_le ((σ.new 4 1 (.buf [.raw (.int .i64 d)])).new 5 1 (.buf [.raw (.int .u32 a)])) 6 7 (.buf [ze ⟨0, 0, 0, 0, ⟨0, 0⟩, 0⟩]) s)
  clear hτ hA
  have f6 : σ.m ⟨6, σ.nx 6, 7⟩ = none := zw _ _ _
  have FF := fI @a0 (fI @a4 (fI @a5 (fI @a6 @m6))); refine goB ?_; clear FF
  refine PCalls.use hf ?_
  have FF := fI @a0 (fI @a4 (fI @a5 (fI @a6 (fI @m6 (fI @zb @zcJ))))); refine goC ?_; clear FF
  exact zC (.inr rfl) rfl (hE.setF f6) (by simp [a6, m6, St.set, zb]; exact zf _)
def zba (last : Int) : List Ru → Bool
  | [] => true
  | r :: l => zaC r && decide (last < r.id) && zba r.id l
def zb8 (l : List Ru) : Bool := zba 0 l && decide (l.length ≤ 40)
theorem zdR (l : List Ru) (f : Bool) (hl : l.length < 2932031007403) : PCalls Tryd.prog 38 [za l f] (.raw (.bool (zb8 l))) := by
  refine zM Tryd.func38 rfl (N := 27) rfl rfl (by simp) (by simp [noIds]) fun σ => ?_
  have FF := za.eq_1; refine goB ?_; clear FF
  refine zao (fun n A τ => Ext σ τ ∧ A 0 = za l f ∧ A 6 = za l f ∧ A 7 = .raw (.int .i64 l.length) ∧ ∃ (i : Nat) (last : Int), A 8 = .raw (.int .i64 i) ∧ A 3 = .raw (.int .i64 last) ∧ i ≤ l.length ∧ n = l.length - i ∧ zba 0 l = zba last (l.drop i)) l.length ?_ ?_
  · exact ⟨by simp, by simp [za], by simp [za], by simp [za], 0, 0, by simp, by simp, by omega, by omega, by simp⟩
  rintro n A τ ⟨hE, a0, a6, a7, i, last, a8, a3, hi, rfl, hall⟩ I1 hI1
  by_cases hlt : i < l.length
  · have hx : l[i]? = some l[i] := List.getElem?_eq_getElem hlt
    have w1 : IntKind.i64.wrap ((i : Int) + 1) = ((i + 1 : Nat) : Int) := by rw [zS (by omega) (by omega)]; omega
    have hd : l.drop i = l[i] :: l.drop (i + 1) := List.drop_eq_getElem_cons hlt
    rw [hd] at hall
    simp only [zba] at hall
    obtain ⟨b, hb⟩ : ∃ b, zaC l[i] = b := ⟨_, rfl⟩
    have hr := hb ▸ zaO l[i]
    rw [hb] at hall
    (try ((first | with_reducible refine zu ?_ | with_reducible refine zA ?_ | with_reducible refine zB ?_); simp [za, a0, a6, a7, a8, a3, hlt, hx, zb, zaY, zf, w1])); repeat' (first | ((first | refine zn ?_ | refine zr ?_ | refine dN (by decide +kernel) ?_ | (refine zd ?_ ?_ <;> (intro hg; simp only [hg])) | fail) <;> simp [za, a0, a6, a7, a8, a3, hlt, hx, zb, zaY, zf, w1]) | refine zp ?_ | refine zl ?_ | (refine zG ?_; simp only [zH]; try simp) | ((first | refine zy (by simp) ?_ | refine zC (by simp) (by simp) (by simp (maxDischargeDepth := 30) [za, a0, a6, a7, a8, a3, hlt, hx, zb, zaY, zf, w1]) ?_ | fail); simp) | (refine zg (fun hc => ?_) (fun hc => ?_) <;> try simp at hc) | fail)
    refine PCalls.use hr ?_
    cases b with
    | false =>
      have FF := fI za.eq_1 (fI @a0 (fI @a6 (fI @a7 (fI @a8 (fI @a3 (fI @hlt (fI @hx (fI @zb (fI @zaY (fI @zf (fI @w1 @hE))))))))))); refine goB ?_; clear FF
      simp [zb8, hall]
    | true =>
      by_cases hlast : l[i].id ≤ last
      · have FF := fI za.eq_1 (fI @a0 (fI @a6 (fI @a7 (fI @a8 (fI @a3 (fI @hlt (fI @hx (fI @zb (fI @zaY (fI @zf (fI @w1 (fI @hE @hlast)))))))))))); refine goB ?_; clear FF
        have : ¬ last < l[i].id := by omega
        simp [zb8, hall, this]
      · have FF := fI za.eq_1 (fI @a0 (fI @a6 (fI @a7 (fI @a8 (fI @a3 (fI @hlt (fI @hx (fI @zb (fI @zaY (fI @zf (fI @w1 @hlast))))))))))); refine goB ?_; clear FF
        have hg : last < l[i].id := by omega
        exact hI1 (l.length - (i + 1)) _ _ (by omega) ⟨by simp [hE], by simp [a0], by simp [a6, za], by simp [a7], i + 1, l[i].id, by simp, by simp, by omega, rfl, by simpa [hg] using hall⟩
  · have : i = l.length := by omega
    subst this
    have FF := fI za.eq_1 (fI @a0 (fI @a6 (fI @a7 (fI @a8 (fI @a3 @hE))))); refine goB ?_; clear FF
    rw [List.drop_length] at hall
    simp only [zba] at hall
    simp [zb8, hall]
    omega
end Go.Proofs.YtckabcbfbpejkaaDoor.Av
namespace Go.Proofs.YtckabcbfbpejkaaDoor.Av
open Go
set_option linter.unusedSimpArgs false
set_option linter.unusedVariables false
def zha (j : Id) : AV → Prop
  | .rp i _ _ => i ≠ j
  | .rs i _ _ => i ≠ j
  | _ => True
theorem zkY {σ : St} {j : Id} : ∀ {v : AV}, zha j v → zz (σ.del j).m σ.m v = v
  | .rp _ _ _, h => zfh h
  | .rs _ _ _, h => zfi h
  | .raw _, _ | .agg _, _ | .tup _, _ | .pp _ _, _ | .sl _ _ _, _ | .fn _ _ _, _ | .mp _, _ | .ifc _ _, _ | .any, _ => rfl
theorem zf0 {P : Program} {N : Nat} {A : zk} {σ : St} {r : Option Nat} {K : Exit → zk → St → Prop} {c : Code} (j : Id) {a : AV} (hj : σ.m j = some (.buf [a]))
    (h : ∀ B : zk, (∀ t v, A t = v → zha j v → B t = v) → (∀ t off, A t = .rp j 0 off → B t = .pp a.cells off) → AWP P r N c K B (σ.del j)) : AWP P r N c K A σ := by
  refine zbv j (h _ (fun t v e hv => ?_) fun t off e => ?_)
  · show zz _ _ (A t) = _
    rw [e, zkY hv]
  · show zz _ _ (A t) = _
    rw [e, zcI (by simp [St.del]) hj rfl]
theorem Ext.delZ {σ τ : St} {i : Id} (h : Ext σ τ) (hi : σ.m i = none) : Ext σ (τ.del i) :=
  ⟨fun j o hj => by rw [zQ (fun e => by rw [e, hi] at hj; cases hj)]; exact h.m j o hj, h.nx⟩
end Go.Proofs.YtckabcbfbpejkaaDoor.Av
namespace Go.Proofs.YtckabcbfbpejkaaDoor.Av
open Go
set_option linter.unusedSimpArgs false
set_option linter.unusedVariables false
set_option maxRecDepth 100000
set_option maxHeartbeats 4000000
set_option pp.maxSteps 600
@[simp] theorem zrX (K : Id → Prop) (p : Ru) : (ze p).ids K := by simp [ze, AV.ids, zt]
theorem zpu (i j : Nat) : ((i : Int) + j).fdiv 2 = ((i + j) / 2 : Nat) := by
  rw [Int.fdiv_eq_ediv_of_nonneg _ (by omega)]; omega
def firstGe (c : Ru → Int) (z : List Ru) : Nat := z.findIdx fun r => decide (0 ≤ c r)
theorem zhR (g : FuncId) (c : Ru → Int) (z : List Ru) (fz : Bool) (a : Int) (hl : z.length < 2 ^ 60)
    (hg : ∀ r ∈ z, PCalls Tryd.prog g [ze r, .raw (.int .i64 a)] (.raw (.int .i64 (c r))))
    (hm : ∀ (i j : Nat) r s, i < j → z[i]? = some r → z[j]? = some s → c s < 0 → c r < 0) :
    PCalls Tryd.prog 68 [za z fz, .raw (.int .i64 a), .fn (.func g) [] []] (.tup [.raw (.int .i64 (firstGe c z)), .raw (.bool (match z[firstGe c z]? with | some r => decide (c r = 0) | none => false))]) := by
  refine zM Tryd.func68 rfl (N := 49) rfl rfl (by simp) (by simp [noIds]) fun σ => ?_
  have FF := za.eq_1; refine goB ?_; clear FF
  refine zja (fun n A τ => τ = σ ∧ A 0 = za z fz ∧ A 1 = .raw (.int .i64 a) ∧ A 2 = .fn (.func g) [] [] ∧ A 8 = .raw (.int .i64 z.length) ∧ ∃ i j : Nat, A 9 = .raw (.int .i64 i) ∧ A 10 = .raw (.int .i64 j) ∧ i ≤ j ∧ j ≤ z.length ∧ n = j - i ∧
    (∀ k r, k < i → z[k]? = some r → c r < 0) ∧ (∀ k r, j ≤ k → z[k]? = some r → 0 ≤ c r)) z.length ?_ ?_
  · simp [za]
    refine ⟨0, by simp, z.length, by simp, by omega, by omega, by omega, fun k r h => by omega, fun k r h hk => ?_⟩
    have := (List.getElem?_eq_some_iff.1 hk).1; omega
  rintro n A τ ⟨rfl, a0, a1, a2, a8, i, j, a9, a10, hij, hj, rfl, hlo, hhi⟩
  by_cases hlt : i < j
  · have hh : (i + j) / 2 < z.length := by omega
    have hx : z[(i + j) / 2]? = some z[(i + j) / 2] := List.getElem?_eq_getElem hh
    have w1 : IntKind.i64.wrap ((i : Int) + j) = (i : Int) + j := zS (by omega) (by omega)
    have w2 : IntKind.u64.wrap ((i : Int) + j) = (i : Int) + j := znb (by omega) (by omega)
    have w3 := zpu i j
    have w4 : IntKind.i64.wrap (((i + j) / 2 : Nat) : Int) = (((i + j) / 2 : Nat) : Int) := zS (by omega) (by omega)
    have w5 : IntKind.i64.wrap ((((i + j) / 2 : Nat) : Int) + 1) = ((((i + j) / 2 : Nat) : Int) + 1) := zS (by omega) (by omega)
    generalize hk : (i + j) / 2 = k at *
    (try ((first | with_reducible refine zu ?_ | with_reducible refine zA ?_ | with_reducible refine zB ?_); simp [a0, a1, a2, a8, a9, a10, za, hlt, hx, w1, w2, w3, w4, w5, IntKind.bits, zb, zf])); repeat' (first | ((first | refine zn ?_ | refine zr ?_ | refine dN (by decide +kernel) ?_ | (refine zd ?_ ?_ <;> (intro hg; simp only [hg])) | fail) <;> simp [a0, a1, a2, a8, a9, a10, za, hlt, hx, w1, w2, w3, w4, w5, IntKind.bits, zb, zf]) | refine zp ?_ | refine zl ?_ | (refine zG ?_; simp only [zH]; try simp) | ((first | refine zy (by simp) ?_ | refine zC (by simp) (by simp) (by simp (maxDischargeDepth := 30) [a0, a1, a2, a8, a9, a10, za, hlt, hx, w1, w2, w3, w4, w5, IntKind.bits, zb, zf]) ?_ | fail); simp) | (refine zg (fun hc => ?_) (fun hc => ?_) <;> try simp at hc) | fail)
    refine PCalls.use (hg z[k] (List.getElem_mem _)) ?_
    (try ((first | with_reducible refine zu ?_ | with_reducible refine zA ?_ | with_reducible refine zB ?_); simp [a0, a1, a2, a8, a9, a10, za, hlt, hx, w1, w2, w3, w4, w5, IntKind.bits, zb, zf])); repeat' (first | ((first | refine zn ?_ | refine zr ?_ | refine dN (by decide +kernel) ?_ | (refine zd ?_ ?_ <;> (intro hg; simp only [hg])) | fail) <;> simp [a0, a1, a2, a8, a9, a10, za, hlt, hx, w1, w2, w3, w4, w5, IntKind.bits, zb, zf]) | refine zp ?_ | refine zl ?_ | (refine zG ?_; simp only [zH]; try simp) | ((first | refine zy (by simp) ?_ | refine zC (by simp) (by simp) (by simp (maxDischargeDepth := 30) [a0, a1, a2, a8, a9, a10, za, hlt, hx, w1, w2, w3, w4, w5, IntKind.bits, zb, zf]) ?_ | fail); simp) | (refine zg (fun hc => ?_) (fun hc => ?_) <;> try simp at hc) | fail)
    · refine ⟨j - (k + 1), by omega, k + 1, by simp, j, rfl, by omega, hj, rfl, fun l r h h2 => ?_, hhi⟩
      by_cases e : l = k
      · subst e
        rw [hx] at h2
        injection h2 with h2
        subst h2; exact hc
      · exact hm l k r z[k] (by omega) h2 hx hc
    · refine ⟨k - i, by omega, i, rfl, k, rfl, by omega, by omega, rfl, hlo, fun l r h h2 => ?_⟩
      by_cases e : l = k
      · subst e
        rw [hx] at h2
        injection h2 with h2
        subst h2; exact hc
      · exact Int.not_lt.1 fun h3 => absurd (hm k l z[k] r (by omega) hx h2 h3) (by omega)
  · have hij : i = j := by omega
    subst hij
    have hf : firstGe c z = i := by
      unfold firstGe
      by_cases hi : i < z.length
      · rw [List.findIdx_eq hi]
        refine ⟨by simpa using hhi i z[i] (Nat.le_refl _) (List.getElem?_eq_getElem hi), fun k hk => ?_⟩
        have := hlo k z[k] hk (List.getElem?_eq_getElem (by omega))
        simpa using this
      · have : i = z.length := by omega
        subst this
        rw [List.findIdx_eq_length]
        intro r hr
        obtain ⟨k, hk, rfl⟩ := List.mem_iff_getElem.1 hr
        have := hlo k z[k] hk (List.getElem?_eq_getElem hk)
        simpa using this
    rw [hf]
    by_cases hi : i < z.length
    · have hx : z[i]? = some z[i] := List.getElem?_eq_getElem hi
      (try ((first | with_reducible refine zu ?_ | with_reducible refine zA ?_ | with_reducible refine zB ?_); simp [a0, a1, a2, a8, a9, a10, za, hx, hi, zb, zf])); repeat' (first | ((first | refine zn ?_ | refine zr ?_ | refine dN (by decide +kernel) ?_ | (refine zd ?_ ?_ <;> (intro hg; simp only [hg])) | fail) <;> simp [a0, a1, a2, a8, a9, a10, za, hx, hi, zb, zf]) | refine zp ?_ | refine zl ?_ | (refine zG ?_; simp only [zH]; try simp) | ((first | refine zy (by simp) ?_ | refine zC (by simp) (by simp) (by simp (maxDischargeDepth := 30) [a0, a1, a2, a8, a9, a10, za, hx, hi, zb, zf]) ?_ | fail); simp) | (refine zg (fun hc => ?_) (fun hc => ?_) <;> try simp at hc) | fail)
      refine PCalls.use (hg z[i] (List.getElem_mem _)) ?_
      have FF := fI @a0 (fI @a1 (fI @a2 (fI @a8 (fI @a9 (fI @a10 (fI za.eq_1 (fI @hx (fI @hi (fI @zb @zf))))))))); refine goB ?_; clear FF
      rw [hx]
    · have hx : z[i]? = none := List.getElem?_eq_none (by omega)
      have FF := fI @a0 (fI @a1 (fI @a2 (fI @a8 (fI @a9 (fI @a10 (fI za.eq_1 (fI @hx (fI @hi (fI @zb @zf))))))))); refine goB ?_; clear FF
      rw [hx]
theorem zgo {a b : Int} : cmpI a b < 0 ↔ a < b := by unfold cmpI; (repeat' split) <;> omega
theorem zlJ {a b : Int} : cmpI a b = 0 ↔ a = b := by unfold cmpI; (repeat' split) <;> omega
def zaw (z : List Ru) (id : Int) : Nat := firstGe (fun r => cmpI r.id id) z
def zb4 (z : List Ru) (id : Int) : Bool := match z[zaw z id]? with | some r => decide (r.id = id) | none => false
def ru0 : Ru := ⟨0, 0, 0, 0, ⟨0, 0⟩, 0⟩
theorem zaz : AV.agg [.raw (.int .i64 0), .raw (.int .i64 0), .raw (.int .i64 0), .raw (.int .i64 0), .raw (.int .u32 0), .raw (.int .u32 0), .raw (.int .i64 0)] = ze ru0 := rfl
def Srt (l : List Ru) : Prop := l.Pairwise fun r s => r.id < s.id
theorem zjr {l : List Ru} {id : Int} {k : Nat} {r : Ru} (hk : l[k]? = some r) (h : k < zaw l id) : r.id < id := by
  obtain ⟨hl, rfl⟩ := List.getElem?_eq_some_iff.1 hk
  have := List.not_of_lt_findIdx (p := fun r : Ru => decide (0 ≤ cmpI r.id id)) (xs := l) (i := k) h
  simp only [decide_eq_true_eq, Int.not_le, decide_eq_false_iff_not] at this
  exact zgo.1 this
theorem zmA {l : List Ru} {id : Int} {r : Ru} (hk : l[zaw l id]? = some r) : id ≤ r.id := by
  obtain ⟨hl, rfl⟩ := List.getElem?_eq_some_iff.1 hk
  have := List.findIdx_getElem (p := fun r : Ru => decide (0 ≤ cmpI r.id id)) (xs := l) (w := hl)
  simp only [decide_eq_true_eq] at this
  refine Int.not_lt.1 fun h => ?_
  have h2 := zgo.2 h
  have h3 : l[zaw l id] = l[List.findIdx (fun r : Ru => decide (0 ≤ cmpI r.id id)) l]'hl := rfl
  rw [h3] at h2
  omega
theorem zne {l : List Ru} {id : Int} (h : zb4 l id = false) {r : Ru} (hk : l[zaw l id]? = some r) : id < r.id := by
  have := zmA hk
  unfold zb4 at h
  rw [hk] at h
  simp only [decide_eq_false_iff_not] at h
  omega
theorem zmB {l : List Ru} (hs : Srt l) {id : Int} (h : zb4 l id = false) {k : Nat} {r : Ru} (hk : l[k]? = some r) (hp : zaw l id ≤ k) : id < r.id := by
  obtain ⟨hl, hr⟩ := List.getElem?_eq_some_iff.1 hk
  have hx : l[zaw l id]? = some (l[zaw l id]'(by omega)) := List.getElem?_eq_getElem (by omega)
  have a := zne h hx
  rcases Nat.eq_or_lt_of_le hp with e | e
  · subst e; rw [hx] at hk; injection hk with hk; rw [← hk]; exact a
  · have := List.pairwise_iff_getElem.1 hs _ _ (by omega) hl e
    rw [hr] at this; omega
def zgp (id : Int) (r : Ru) : Bool := decide (r.id = id)
def zdg (l : List Ru) (id : Int) : Option Ru := l.find? (zgp id)
theorem zap : (ze ru0).cells = [.raw (.int .i64 0), .raw (.int .i64 0), .raw (.int .i64 0), .raw (.int .i64 0), .raw (.int .u32 0), .raw (.int .u32 0), .raw (.int .i64 0)] := rfl
theorem zaP (r s : Ru) : setPart (ze r) 0 [.raw (.int .i64 s.id), .raw (.int .i64 s.dev), .raw (.int .i64 s.prio), .raw (.int .i64 s.kind), .raw (.int .u32 s.r.lo), .raw (.int .u32 s.r.hi), .raw (.int .i64 s.port)] = ze s := rfl
theorem zeh (r s : Ru) : setPart (ze r) 0 (ze s).cells = ze s := rfl
theorem zkZ {l : List Ru} (hs : Srt l) (id : Int) : zdg l id = if zb4 l id = true then l[zaw l id]? else none := by
  cases hh : zb4 l id with
  | true =>
    rw [if_pos rfl]
    have hh2 := hh
    unfold zb4 at hh2
    cases hx : l[zaw l id]? with
    | none => rw [hx] at hh2; cases hh2
    | some r =>
      rw [hx] at hh2
      simp only [decide_eq_true_eq] at hh2
      unfold zdg
      rw [List.find?_eq_some_iff_append]
      obtain ⟨hl, hv⟩ := List.getElem?_eq_some_iff.1 hx
      refine ⟨by simp [zgp, hh2], l.take (zaw l id), l.drop (zaw l id + 1), ?_, fun a ha => ?_⟩
      · rw [← hv, ← List.drop_eq_getElem_cons hl, List.take_append_drop]
      · obtain ⟨k, hk, rfl⟩ := List.mem_take_iff_getElem.1 ha
        have hk' : k < zaw l id := by omega
        have := zjr (List.getElem?_eq_getElem (l := l) (i := k) (by omega)) hk'
        simp [zgp]; omega
  | false =>
    rw [if_neg (by simp)]
    unfold zdg
    rw [List.find?_eq_none]
    intro x hx he
    simp only [zgp, decide_eq_true_eq] at he
    obtain ⟨k, hk, rfl⟩ := List.mem_iff_getElem.1 hx
    have hk' : l[k]? = some l[k] := List.getElem?_eq_getElem hk
    by_cases hp : zaw l id ≤ k
    · have := zmB hs hh hk' hp; omega
    · have := zjr (id := id) hk' (by omega); omega
end Go.Proofs.YtckabcbfbpejkaaDoor.Av
namespace Go.Proofs.YtckabcbfbpejkaaDoor.Av
open Go
set_option linter.unusedSimpArgs false
set_option linter.unusedVariables false
set_option maxRecDepth 100000
set_option maxHeartbeats 2000000
set_option pp.maxSteps 300
def zfm (l : List Ru) (i : Nat) : Int := match i with | 0 => 0 | k + 1 => match l[k]? with | some r => r.id | none => 0
theorem zjs (l : List Ru) (f : Bool) (hl : l.length < 2932031007403) (hid : ∀ r ∈ l, -9223372036854775808 ≤ r.id ∧ r.id < 9223372036854775808) : PCalls Tryd.prog 42 [za l f] (.raw (.bool (zb8 l))) := by
  refine zM Tryd.func42 rfl (N := 39) rfl rfl (by simp) (by simp [noIds]) fun σ => ?_
  have FF := za.eq_1; refine goB ?_; clear FF
  refine zao (fun n A τ => τ = σ ∧ A 0 = za l f ∧ ∃ i : Nat, A 3 = .raw (.int .i64 i) ∧ i ≤ l.length ∧ n = l.length - i ∧ zba 0 l = zba (zfm l i) (l.drop i)) l.length ?_ ?_
  · exact ⟨rfl, by simp [za], 0, by simp, by omega, by omega, by simp [zfm]⟩
  rintro n A τ ⟨rfl, a0, i, a3, hi, rfl, hall⟩ I1 hI1
  by_cases hlt : i < l.length
  · have hx : l[i]? = some l[i] := List.getElem?_eq_getElem hlt
    have w1 : IntKind.i64.wrap ((i : Int) + 1) = ((i + 1 : Nat) : Int) := by rw [zS (by omega) (by omega)]; omega
    have hd : l.drop i = l[i] :: l.drop (i + 1) := List.drop_eq_getElem_cons hlt
    rw [hd] at hall
    simp only [zba] at hall
    obtain ⟨b, hb⟩ : ∃ b, zaC l[i] = b := ⟨_, rfl⟩
    have hr := hb ▸ zc1 l[i] (hid _ (List.getElem_mem _)).1 (hid _ (List.getElem_mem _)).2
    rw [hb] at hall
    (try ((first | with_reducible refine zu ?_ | with_reducible refine zA ?_ | with_reducible refine zB ?_); simp [za, a0, a3, hlt, hx, zb, zaY, zf, w1])); repeat' (first | ((first | refine zn ?_ | refine zr ?_ | refine dN (by decide +kernel) ?_ | (refine zd ?_ ?_ <;> (intro hg; simp only [hg])) | fail) <;> simp [za, a0, a3, hlt, hx, zb, zaY, zf, w1]) | refine zp ?_ | refine zl ?_ | (refine zG ?_; simp only [zH]; try simp) | ((first | refine zy (by simp) ?_ | refine zC (by simp) (by simp) (by simp (maxDischargeDepth := 30) [za, a0, a3, hlt, hx, zb, zaY, zf, w1]) ?_ | fail); simp) | (refine zg (fun hc => ?_) (fun hc => ?_) <;> try simp at hc) | fail)
    refine PCalls.use hr ?_
    cases b with
    | false =>
      have FF := fI za.eq_1 (fI @a0 (fI @a3 (fI @hlt (fI @hx (fI @zb (fI @zaY (fI @zf @w1))))))); refine goB ?_; clear FF
      all_goals simp [zb8, hall]
    | true =>
      cases i with
      | zero =>
        have hpos : 1 ≤ l[0].id := by
          have := hb; unfold zaC at this; simp at this; omega
        have FF := fI za.eq_1 (fI @a0 (fI @a3 (fI @hlt (fI @hx (fI @zb (fI @zaY (fI @zf @w1))))))); refine goB ?_; clear FF
        have w0 : IntKind.i64.wrap 1 = 1 := zS (by omega) (by omega)
        have hx0 : l[0]? = some l[0] := hx
        have h0 : (0 : Int) < l[0].id := by omega
        have h1 : zfm l 1 = l[0].id := by simp [zfm, hx0]
        exact hI1 (l.length - 1) _ _ (by omega) ⟨rfl, by simp [a0, za], 1, by simp [w0], by omega, rfl, by rw [hall, h1]; simp [zfm, h0]⟩
      | succ k =>
        have hk : k < l.length := by omega
        have hxk : l[k]? = some l[k] := List.getElem?_eq_getElem hk
        have w2 : IntKind.i64.wrap (k : Int) = k := zS (by omega) (by omega)
        have hp0 : (0 : Int) ≤ (k : Int) + 1 := by omega
        have htn : ((k : Int) + 1).toNat = k + 1 := by omega
        have w4 : IntKind.i64.wrap ((k : Int) + 1 + 1) = (k : Int) + 1 + 1 := zS (by omega) (by omega)
        have w3 : IntKind.i64.wrap ((k : Int) + 1 - 1) = k := by rw [zS (by omega) (by omega)]; omega
        have hidk : zfm l (k + 1) = l[k].id := by simp [zfm, hxk]
        rw [hidk] at hall
        have hpk : (0 : Int) < (k : Int) + 1 := by omega
        by_cases hle : l[k + 1].id ≤ l[k].id
        · have hnl : ¬ l[k].id < l[k + 1].id := by omega
          have FF := fI za.eq_1 (fI @a0 (fI @a3 (fI @hlt (fI @hx (fI @hk (fI @hxk (fI @zb (fI @zaY (fI @zf (fI @w1 (fI @w2 (fI @w3 (fI @w4 (fI @hp0 (fI @htn (fI @hpk @hle)))))))))))))))); refine goB ?_; clear FF
          all_goals simp [zb8, hall, hnl]
        · have hg : l[k].id < l[k + 1].id := by omega
          (try ((first | with_reducible refine zu ?_ | with_reducible refine zA ?_ | with_reducible refine zB ?_); simp [za, a0, a3, hlt, hx, hk, hxk, zb, zaY, zf, w1, w2, w3, w4, hp0, htn, hpk, hle])); repeat' (first | ((first | refine zn ?_ | refine zr ?_ | refine dN (by decide +kernel) ?_ | (refine zd ?_ ?_ <;> (intro hg; simp only [hg])) | fail) <;> simp [za, a0, a3, hlt, hx, hk, hxk, zb, zaY, zf, w1, w2, w3, w4, hp0, htn, hpk, hle]) | refine zp ?_ | refine zl ?_ | (refine zG ?_; simp only [zH]; try simp) | ((first | refine zy (by simp) ?_ | refine zC (by simp) (by simp) (by simp (maxDischargeDepth := 30) [za, a0, a3, hlt, hx, hk, hxk, zb, zaY, zf, w1, w2, w3, w4, hp0, htn, hpk, hle]) ?_ | fail); simp) | (refine zg (fun hc => ?_) (fun hc => ?_) <;> try simp at hc) | fail)
          exact hI1 (l.length - (k + 1 + 1)) _ _ (by omega) ⟨rfl, by simp [a0, za], k + 1 + 1, by simp, by omega, rfl, by rw [hall]; simp [zfm, hx, hg]⟩
  · have : i = l.length := by omega
    subst this
    have FF := fI za.eq_1 (fI @a0 @a3); refine goB ?_; clear FF
    rw [List.drop_length] at hall
    simp only [zba] at hall
    simp [zb8, hall]
    omega
end Go.Proofs.YtckabcbfbpejkaaDoor.Av
namespace Go.Proofs.YtckabcbfbpejkaaDoor.Av
open Go
set_option linter.unusedSimpArgs false
set_option linter.unusedVariables false
set_option maxRecDepth 100000
set_option maxHeartbeats 2000000
set_option pp.maxSteps 300
theorem zkn {T : Type} [DecidableEq T] {x y : List T} {i : Nat} (h : x.take i = y.take i) {a : T} (hx : x[i]? = some a) (hy : y[i]? = some a) : x.take (i + 1) = y.take (i + 1) := by
  rw [List.take_add_one, List.take_add_one, h, hx, hy]
end Go.Proofs.YtckabcbfbpejkaaDoor.Av
namespace Go.Proofs.YtckabcbfbpejkaaDoor.Av
open Go
set_option linter.unusedSimpArgs false
set_option linter.unusedVariables false
set_option maxRecDepth 100000
set_option maxHeartbeats 2000000
set_option pp.maxSteps 300
def ptV (p : Pt) : Value := .agg #[.int .i64 p.dev, .int .i64 p.port]
def enc (m : List (Pt × Pt)) : List (Value × AV) := m.map fun e => (ptV e.1, zqG e.2)
def upd (m : List (Pt × Pt)) (k v : Pt) : List (Pt × Pt) := m.filter (fun e => decide (k ≠ e.1)) ++ [(k, v)]
def ztv (m : List (Pt × Pt)) : Prop := (m.map (·.1)).Nodup
def zk0 (L : List Lk) : List (Pt × Pt) := L.foldl (fun m l => upd (upd m l.a l.b) l.b l.a) []
def zhb (t : Tp) (p : Pt) : Option Pt := ((zk0 t.links).find? fun e => decide (p = e.1)).map (·.2)
end Go.Proofs.YtckabcbfbpejkaaDoor.Av
namespace Go.Proofs.YtckabcbfbpejkaaDoor.Av
open Go
set_option linter.unusedSimpArgs false
set_option linter.unusedVariables false
set_option maxRecDepth 100000
set_option maxHeartbeats 2000000
set_option pp.maxSteps 300
def znf (t : Tp) (l : Lk) : Bool := !hasB t l.a || (!hasB t l.b || decide (l.a = l.b))
def zpv (t : Tp) (l : List Ru) : Bool := !(l.any fun r => !hasB t ⟨r.dev, r.port⟩)
def zmC (t : Tp) : Bool := t.ports.any fun n => decide (n < 1) || decide (4 < n)
def zn3 (t : Tp) : Bool := !decide (t.ports.length = 0) && (!decide (8 < t.ports.length) && (!decide (16 < t.links.length) && (!zmC t && (!t.links.any (znf t) && decide ((zk0 t.links).length = 2 * t.links.length)))))
end Go.Proofs.YtckabcbfbpejkaaDoor.Av
namespace Go.Proofs.YtckabcbfbpejkaaDoor.Av
open Go
set_option linter.unusedSimpArgs false
set_option linter.unusedVariables false
set_option maxRecDepth 100000
set_option maxHeartbeats 2000000
set_option pp.maxSteps 300
theorem zO {P : Program} {op : BinOp} {t : TypeId} {a b : Value} : z6 P op t (.raw a) (.raw b) = zeY P op t (.raw a) (.raw b) := rfl
end Go.Proofs.YtckabcbfbpejkaaDoor.Av
namespace Go.Proofs.YtckabcbfbpejkaaDoor.Av
open Go
set_option linter.unusedSimpArgs false
set_option linter.unusedVariables false
set_option maxRecDepth 100000
set_option maxHeartbeats 2000000
set_option pp.maxSteps 300
end Go.Proofs.YtckabcbfbpejkaaDoor.Av
namespace Go.Proofs.YtckabcbfbpejkaaDoor.Av
open Go
set_option linter.unusedSimpArgs false
set_option linter.unusedVariables false
set_option maxRecDepth 100000
set_option maxHeartbeats 2000000
set_option pp.maxSteps 2500
def zju : List Lk → Pt → Option Pt
  | [], _ => none
  | l :: ls, p => if l.a = p then some l.b else if l.b = p then some l.a else zju ls p
end Go.Proofs.YtckabcbfbpejkaaDoor.Av
namespace Go.Proofs.YtckabcbfbpejkaaDoor.Av
open Go
set_option linter.unusedSimpArgs false
set_option linter.unusedVariables false
set_option maxRecDepth 100000
set_option maxHeartbeats 2000000
set_option pp.maxSteps 600
structure Tk where
  path : List Int
  out : Int
  last : Pt
deriving DecidableEq
def tkAV (t : Tk) (f : Bool) : AV := .agg [zav t.path f, .raw (.int .i64 t.out), .raw (.int .i64 t.last.dev), .raw (.int .i64 t.last.port)]
end Go.Proofs.YtckabcbfbpejkaaDoor.Av
namespace Go.Proofs.YtckabcbfbpejkaaDoor.Av
open Go
set_option linter.unusedSimpArgs false
set_option linter.unusedVariables false
set_option maxRecDepth 100000
set_option maxHeartbeats 4000000
set_option pp.maxSteps 300
def zgq (d a : Int) (acl : Bool) (r : Ru) : Bool := decide (r.dev = d) && (!decide (a < r.r.lo) && (!decide (r.r.hi < a) && ((decide (r.kind = 2) || decide (r.kind = 3)) == acl)))
def zaF (x m : Ru) : Bool := decide (m.prio < x.prio) || (decide (x.prio = m.prio) && decide (x.id < m.id))
theorem zhc (x m : Ru) : zcs x m < 0 ↔ zaF x m = true := by
  unfold zcs cmpI zaF
  simp only [Bool.or_eq_true, Bool.and_eq_true, decide_eq_true_eq]
  repeat' split
  all_goals omega
theorem zlL (z : List Ru) (x : Ru) : zay (z ++ [x]) = if z = [] then x else if zaF x (zay z) = true then x else zay z := by
  cases z with
  | nil => rfl
  | cons r l =>
    simp only [reduceCtorEq, if_false, List.cons_append, zay, List.foldl_append, List.foldl_cons, List.foldl_nil]
    by_cases h : zcs x (l.foldl (fun m x => if zcs x m < 0 then x else m) r) < 0
    · rw [if_pos h]; exact (if_pos ((zhc _ _).1 h)).symm
    · rw [if_neg h]; exact (if_neg (fun q => h ((zhc _ _).2 q))).symm
end Go.Proofs.YtckabcbfbpejkaaDoor.Av
namespace Go.Proofs.YtckabcbfbpejkaaDoor.Av
open Go
set_option linter.unusedSimpArgs false
set_option linter.unusedVariables false
set_option maxRecDepth 100000
set_option maxHeartbeats 2000000
set_option pp.maxSteps 300
def zk1 (l : List Ru) (d a : Int) : Bool := l.any (zgq d a true) && decide ((zay (l.filter (zgq d a true))).kind = 3)
end Go.Proofs.YtckabcbfbpejkaaDoor.Av
namespace Go.Proofs.YtckabcbfbpejkaaDoor.Av
set_option linter.unusedSimpArgs false
set_option linter.unusedVariables false
inductive Tr where
  | nil
  | node (l : Tr) (k v : Int) (r : Tr)
namespace Tr
def ht : Tr → Int
  | nil => 0
  | node l _ _ r => 1 + max l.ht r.ht
def sz : Tr → Int
  | nil => 0
  | node l _ _ r => 1 + l.sz + r.sz
def toL : Tr → List (Int × Int)
  | nil => []
  | node l k v r => l.toL ++ (k, v) :: r.toL
theorem zdS : ∀ t : Tr, 0 ≤ t.ht
  | nil => by simp [ht]
  | node l k v r => by have := zdS l; have := zdS r; simp only [ht]; omega
theorem sz_toL : ∀ t : Tr, t.sz = t.toL.length
  | nil => by simp [sz, toL]
  | node l k v r => by have := sz_toL l; have := sz_toL r; simp only [sz, toL, List.length_append, List.length_cons]; omega
def left : Tr → Tr
  | nil => nil
  | node l _ _ _ => l
def right : Tr → Tr
  | nil => nil
  | node _ _ _ r => r
def zd4 (l : Tr) (k v : Int) (r : Tr) : Tr :=
  if r.ht + 1 < l.ht then
    match l with
    | nil => nil
    | node ll lk lv lr => if lr.ht ≤ ll.ht then node ll lk lv (node lr k v r) else match lr with
      | nil => nil
      | node a mk mv b => node (node ll lk lv a) mk mv (node b k v r)
  else if l.ht + 1 < r.ht then
    match r with
    | nil => nil
    | node rl rk rv rr => if rl.ht ≤ rr.ht then node (node l k v rl) rk rv rr else match rl with
      | nil => nil
      | node a mk mv b => node (node l k v a) mk mv (node b rk rv rr)
  else node l k v r
theorem zbK (l : Tr) (k v : Int) (r : Tr) : (zd4 l k v r).toL = l.toL ++ (k, v) :: r.toL := by
  unfold zd4
  split
  · rename_i h
    cases l with
    | nil => have := zdS r; simp only [ht] at h; omega
    | node ll lk lv lr =>
      simp only []
      split
      · simp [toL]
      · rename_i h2
        cases lr with
        | nil => have := zdS ll; simp only [ht] at h2; omega
        | node a mk mv b => simp [toL]
  · split
    · rename_i h
      cases r with
      | nil => have := zdS l; simp only [ht] at h; omega
      | node rl rk rv rr =>
        simp only []
        split
        · simp [toL]
        · rename_i h2
          cases rl with
          | nil => have := zdS rr; simp only [ht] at h2; omega
          | node a mk mv b => simp [toL]
    · simp [toL]
def with_ : Tr → Int → Int → Tr
  | nil, k, v => node nil k v nil
  | node l k' v' r, k, v => if k < k' then zd4 (l.with_ k v) k' v' r else if k' < k then zd4 l k' v' (r.with_ k v) else node l k v r
def get : Tr → Int → Option Int
  | nil, _ => none
  | node l k' v' r, k => if k < k' then l.get k else if k' < k then r.get k else some v'
def least : Tr → (Int × Int) × Tr
  | nil => ((0, 0), nil)
  | node nil k v r => ((k, v), r)
  | node (node a b c d) k v r => ((node a b c d).least.1, zd4 (node a b c d).least.2 k v r)
def without : Tr → Int → Tr
  | nil, _ => nil
  | node l k' v' r, k => if k < k' then zd4 (l.without k) k' v' r else if k' < k then zd4 l k' v' (r.without k) else match r with
    | nil => l
    | node a b c d => zd4 l (node a b c d).least.1.1 (node a b c d).least.1.2 (node a b c d).least.2
def under : Tr → Int → Int
  | nil, _ => 0
  | node l k' _ r, k => if k' < k then 1 + l.sz + r.under k else l.under k
def at_ : Tr → Int → Option (Int × Int)
  | nil, _ => none
  | node l k v r, i => if i < l.sz then l.at_ i else if l.sz < i then r.at_ (i - (1 + l.sz)) else some (k, v)
def join (l : Tr) (k v : Int) (r : Tr) : Tr :=
  if r.ht + 1 < l.ht then
    match l with
    | nil => nil
    | node ll lk lv lr => zd4 ll lk lv (join lr k v r)
  else if l.ht + 1 < r.ht then
    match r with
    | nil => nil
    | node rl rk rv rr => zd4 (join l k v rl) rk rv rr
  else node l k v r
termination_by SizeOf.sizeOf l + SizeOf.sizeOf r
def cut : Tr → Int → Tr × Tr
  | nil, _ => (nil, nil)
  | node l k v r, b => if k < b then (join l k v (r.cut b).1, (r.cut b).2) else ((l.cut b).1, join (l.cut b).2 k v r)
theorem zjv (l : Tr) (k v : Int) (r : Tr) : (join l k v r).toL = l.toL ++ (k, v) :: r.toL := by
  fun_induction join l k v r with
  | case1 r h => have := zdS r; simp only [ht] at h; omega
  | case2 r ll lk lv lr h ih => rw [zbK, ih]; simp [toL]
  | case3 l h1 h => have := zdS l; simp only [ht] at h; omega
  | case4 l rl rk rv rr h1 h ih => rw [zbK, ih]; simp [toL]
  | case5 l r h1 h2 => simp [toL]
def Srt (l : List (Int × Int)) : Prop := l.Pairwise fun a b => a.1 < b.1
def Lt (b : Int) (l : List (Int × Int)) : Prop := ∀ e ∈ l, e.1 < b
def Gt (b : Int) (l : List (Int × Int)) : Prop := ∀ e ∈ l, b < e.1
theorem zeH {l : Tr} {k v : Int} {r : Tr} : Srt (node l k v r).toL ↔ Srt l.toL ∧ Srt r.toL ∧ Lt k l.toL ∧ Gt k r.toL := by
  simp only [Srt, toL, Lt, Gt]
  rw [List.pairwise_append, List.pairwise_cons]
  constructor
  · rintro ⟨h1, ⟨h2, h3⟩, h4⟩
    exact ⟨h1, h3, fun e he => h4 e he (k, v) (by simp), fun e he => h2 e he⟩
  · rintro ⟨h1, h2, h3, h4⟩
    refine ⟨h1, ⟨fun e he => h4 e he, h2⟩, fun a ha b hb => ?_⟩
    rcases List.mem_cons.1 hb with rfl | hb
    · exact h3 a ha
    · have := h3 a ha; have := h4 b hb; omega
def put (l : List (Int × Int)) (k v : Int) : List (Int × Int) := l.filter (fun e => decide (e.1 < k)) ++ (k, v) :: l.filter (fun e => decide (k < e.1))
theorem zaK {p : Int × Int → Bool} {l : List (Int × Int)} (h : ∀ e ∈ l, p e = true) : l.filter p = l := List.filter_eq_self.2 h
theorem zcf {p : Int × Int → Bool} {l : List (Int × Int)} (h : ∀ e ∈ l, p e = false) : l.filter p = [] := List.filter_eq_nil_iff.2 fun e he => by simp [h e he]
theorem with_toL : ∀ (t : Tr) (k v : Int), Srt t.toL → (t.with_ k v).toL = put t.toL k v
  | nil, k, v, _ => by simp [with_, toL, put]
  | node l k' v' r, k, v, h => by
    obtain ⟨h1, h2, h3, h4⟩ := zeH.1 h
    simp only [with_]
    split
    · rename_i hk
      rw [zbK, with_toL l k v h1]
      simp only [put, toL, List.filter_append, List.filter_cons]
      have e1 : r.toL.filter (fun e => decide (e.1 < k)) = [] := zcf fun e he => by have := h4 e he; simp; omega
      have e2 : r.toL.filter (fun e => decide (k < e.1)) = r.toL := zaK fun e he => by have := h4 e he; simp; omega
      have e3 : ¬ k' < k := by omega
      simp [e1, e2, hk, e3]
    · split
      · rename_i hk0 hk
        rw [zbK, with_toL r k v h2]
        simp only [put, toL, List.filter_append, List.filter_cons]
        have e1 : l.toL.filter (fun e => decide (k < e.1)) = [] := zcf fun e he => by have := h3 e he; simp; omega
        have e2 : l.toL.filter (fun e => decide (e.1 < k)) = l.toL := zaK fun e he => by have := h3 e he; simp; omega
        simp [e1, e2, hk, hk0]
      · have : k = k' := by omega
        subst this
        simp only [put, toL, List.filter_append, List.filter_cons]
        have e1 : l.toL.filter (fun e => decide (k < e.1)) = [] := zcf fun e he => by have := h3 e he; simp; omega
        have e2 : l.toL.filter (fun e => decide (e.1 < k)) = l.toL := zaK fun e he => by have := h3 e he; simp; omega
        have e3 : r.toL.filter (fun e => decide (e.1 < k)) = [] := zcf fun e he => by have := h4 e he; simp; omega
        have e4 : r.toL.filter (fun e => decide (k < e.1)) = r.toL := zaK fun e he => by have := h4 e he; simp; omega
        simp [e1, e2, e3, e4]
theorem put_srt {l : List (Int × Int)} (h : Srt l) (k v : Int) : Srt (put l k v) := by
  unfold Srt put
  rw [List.pairwise_append, List.pairwise_cons]
  refine ⟨h.filter _, ⟨fun e he => by simpa using (List.mem_filter.1 he).2, h.filter _⟩, fun a ha b hb => ?_⟩
  have h1 := (List.mem_filter.1 ha).2
  simp only [decide_eq_true_eq] at h1
  rcases List.mem_cons.1 hb with rfl | hb
  · exact h1
  · have h2 := (List.mem_filter.1 hb).2
    simp only [decide_eq_true_eq] at h2
    omega
theorem get_eq : ∀ (t : Tr) (k : Int), Srt t.toL → t.get k = (t.toL.find? fun e => decide (e.1 = k)).map (·.2)
  | nil, k, _ => by simp [get, toL]
  | node l k' v' r, k, h => by
    obtain ⟨h1, h2, h3, h4⟩ := zeH.1 h
    simp only [get, toL, List.find?_append, List.find?_cons]
    split
    · rename_i hk
      have e1 : r.toL.find? (fun e => decide (e.1 = k)) = none := List.find?_eq_none.2 fun e he => by have := h4 e he; simp; omega
      have e2 : decide (k' = k) = false := by simp; omega
      rw [get_eq l k h1, e1, e2]; simp
    · split
      · rename_i hk0 hk
        have e1 : l.toL.find? (fun e => decide (e.1 = k)) = none := List.find?_eq_none.2 fun e he => by have := h3 e he; simp; omega
        have e2 : decide (k' = k) = false := by simp; omega
        rw [get_eq r k h2, e1, e2]; simp
      · have : k' = k := by omega
        subst this
        have e1 : l.toL.find? (fun e => decide (e.1 = k')) = none := List.find?_eq_none.2 fun e he => by have := h3 e he; simp; omega
        rw [e1]; simp
theorem get_none {t : Tr} (h : Srt t.toL) (k : Int) : t.get k = none ↔ k ∉ t.toL.map (·.1) := by
  rw [get_eq t k h]
  simp only [Option.map_eq_none_iff, List.find?_eq_none, decide_eq_true_eq, List.mem_map, not_exists, not_and]
theorem get_with {t : Tr} (h : Srt t.toL) (k v k2 : Int) : (t.with_ k v).get k2 = if k2 = k then some v else t.get k2 := by
  have hs : Srt (t.with_ k v).toL := by rw [with_toL t k v h]; exact put_srt h k v
  rw [get_eq _ _ hs, with_toL t k v h, get_eq _ _ h]
  simp only [put, List.find?_append, List.find?_cons]
  by_cases e : k2 = k
  · subst e
    have e1 : (t.toL.filter fun e => decide (e.1 < k2)).find? (fun e => decide (e.1 = k2)) = none := List.find?_eq_none.2 fun e he => by have := (List.mem_filter.1 he).2; simp at this ⊢; omega
    rw [e1]; simp
  · rw [if_neg e]
    have e2 : decide (k = k2) = false := by simp; omega
    rw [e2]
    simp only [Bool.false_eq_true, if_false, List.find?_filter]
    congr 1
    have : ∀ l : List (Int × Int), Srt l → (l.find? fun a => decide (a.1 < k) && decide (a.1 = k2)).or (l.find? fun a => decide (k < a.1) && decide (a.1 = k2)) = l.find? fun a => decide (a.1 = k2) := by
      intro l hl
      induction l with
      | nil => rfl
      | cons a l ih =>
        have hl' := List.pairwise_cons.1 hl
        simp only [List.find?_cons]
        by_cases q : a.1 = k2
        · by_cases q2 : a.1 < k
          · simp [q, q2]; rw [q] at q2; simp [q2]
          · have q3 : k < a.1 := by omega
            have q4 : l.find? (fun a => decide (a.1 < k) && decide (a.1 = k2)) = none := List.find?_eq_none.2 fun e he => by have := hl'.1 e he; simp; omega
            rw [q4]
            simp [q, q2]
            rw [q] at q2 q3; simp [q2, q3]
        · simp [q]; exact ih hl'.2
    simp only [Bool.decide_and, Bool.decide_eq_true]
    exact this _ h
theorem zhS : ∀ (t : Tr) (b : Int), Srt t.toL → (t.cut b).1.toL = t.toL.filter (fun e => decide (e.1 < b)) ∧ (t.cut b).2.toL = t.toL.filter (fun e => decide (b ≤ e.1))
  | nil, b, _ => by simp [cut, toL]
  | node l k v r, b, h => by
    obtain ⟨h1, h2, h3, h4⟩ := zeH.1 h
    simp only [cut, toL, List.filter_append, List.filter_cons]
    split
    · rename_i hk
      obtain ⟨i1, i2⟩ := zhS r b h2
      simp only [zjv, i1, i2]
      have e1 : l.toL.filter (fun e => decide (e.1 < b)) = l.toL := zaK fun e he => by have := h3 e he; simp; omega
      have e2 : l.toL.filter (fun e => decide (b ≤ e.1)) = [] := zcf fun e he => by have := h3 e he; simp; omega
      have e3 : ¬ b ≤ k := by omega
      simp [e1, e2, e3, hk]
    · rename_i hk
      obtain ⟨i1, i2⟩ := zhS l b h1
      simp only [zjv, i1, i2]
      have e1 : r.toL.filter (fun e => decide (b ≤ e.1)) = r.toL := zaK fun e he => by have := h4 e he; simp; omega
      have e2 : r.toL.filter (fun e => decide (e.1 < b)) = [] := zcf fun e he => by have := h4 e he; simp; omega
      have e3 : b ≤ k := by omega
      simp [e1, e2, e3, hk]
theorem cut_len (t : Tr) (b : Int) (h : Srt t.toL) : (t.cut b).1.sz = (t.toL.countP fun e => decide (e.1 < b) : Nat) := by
  rw [sz_toL, (zhS t b h).1, List.countP_eq_length_filter]
theorem zin : ∀ (t : Tr), t ≠ nil → t.toL = t.least.1 :: t.least.2.toL
  | nil, h => absurd rfl h
  | node nil k v r, _ => by simp [least, toL]
  | node (node a b c d) k v r, _ => by
    have := zin (node a b c d) (by simp)
    simp only [least, zbK]
    rw [toL, this]; simp
theorem without_toL : ∀ (t : Tr) (k : Int), Srt t.toL → (t.without k).toL = t.toL.filter fun e => !decide (e.1 = k)
  | nil, k, _ => by simp [without, toL]
  | node l k' v' r, k, h => by
    obtain ⟨h1, h2, h3, h4⟩ := zeH.1 h
    simp only [without]
    split
    · rename_i hk
      rw [zbK, without_toL l k h1]
      simp only [toL, List.filter_append, List.filter_cons]
      have e1 : r.toL.filter (fun e => !decide (e.1 = k)) = r.toL := zaK fun e he => by have := h4 e he; simp; omega
      have e2 : ¬ k' = k := by omega
      simp [e1, e2]
    · split
      · rename_i hk0 hk
        rw [zbK, without_toL r k h2]
        simp only [toL, List.filter_append, List.filter_cons]
        have e1 : l.toL.filter (fun e => !decide (e.1 = k)) = l.toL := zaK fun e he => by have := h3 e he; simp; omega
        have e2 : ¬ k' = k := by omega
        simp [e1, e2]
      · have : k' = k := by omega
        subst this
        have e1 : l.toL.filter (fun e => !decide (e.1 = k')) = l.toL := zaK fun e he => by have := h3 e he; simp; omega
        have e2 : r.toL.filter (fun e => !decide (e.1 = k')) = r.toL := zaK fun e he => by have := h4 e he; simp; omega
        cases r with
        | nil =>
          simp only [toL, List.filter_append, List.filter_cons]
          simp [e1]
        | node a b c d =>
          simp only [zbK]
          have h5 := zin (node a b c d) (by simp)
          rw [toL, List.filter_append, List.filter_cons, e1, e2]
          simp only [decide_true, Bool.not_true, Bool.false_eq_true, if_false]
          rw [h5]
end Tr
end Go.Proofs.YtckabcbfbpejkaaDoor.Av
namespace Go.Proofs.YtckabcbfbpejkaaDoor.Av
open Go
set_option linter.unusedSimpArgs false
set_option linter.unusedVariables false
set_option maxRecDepth 100000
set_option maxHeartbeats 2000000
set_option pp.maxSteps 300
def za7 (n : Nw) (d a : Int) : Int × Pt :=
  if zbT n.rules d a = true then (2, ⟨0, 0⟩) else if zbz n.rules d a = false then (0, ⟨0, 0⟩) else if (zbg n.rules d a).kind = 1 then (1, ⟨0, 0⟩)
  else if (zhb n.t ⟨d, (zbg n.rules d a).port⟩).isSome = true then (4, ⟨d, (zbg n.rules d a).port⟩) else (3, ⟨d, (zbg n.rules d a).port⟩)
end Go.Proofs.YtckabcbfbpejkaaDoor.Av
namespace Go.Proofs.YtckabcbfbpejkaaDoor.Av
open Go
set_option linter.unusedSimpArgs false
set_option linter.unusedVariables false
set_option maxRecDepth 100000
set_option maxHeartbeats 2000000
set_option pp.maxSteps 600
def Tr.av : Tr → AV
  | .nil => .raw (.pointer none)
  | .node l k v r => .pp [.raw (.int .u64 k), .raw (.int .i64 v), l.av, r.av, .raw (.int .i64 (Tr.node l k v r).ht), .raw (.int .i64 (Tr.node l k v r).sz)] 0
def zqJ (k v : Int) : AV := .agg [.raw (.int .u64 k), .raw (.int .i64 v)]
@[simp] theorem zrY : Tr.nil.av = .raw (.pointer none) := rfl
@[simp] theorem zqK (k v : Int) : (zqJ k v).cells = [.raw (.int .u64 k), .raw (.int .i64 v)] := rfl
@[simp] theorem zrk (l : List Int) (f : Bool) : cellOK (zav l f) = true := rfl
@[simp] theorem zqL (l : List Lk) (f : Bool) : cellOK (zhP l f) = true := rfl
@[simp] theorem zqM (l : List Ru) (f : Bool) : cellOK (za l f) = true := rfl
end Go.Proofs.YtckabcbfbpejkaaDoor.Av
namespace Go.Proofs.YtckabcbfbpejkaaDoor.Av
open Go
set_option linter.unusedSimpArgs false
set_option linter.unusedVariables false
set_option maxRecDepth 100000
set_option maxHeartbeats 4000000
set_option pp.maxSteps 600
def trP (t : Tr) : AV := .pp [t.av] 0
@[simp] theorem zp3 (t : Tr) : (trP t).cells = [trP t] := rfl
@[simp] theorem zrZ (t : Tr) : cellOK (trP t) = true := rfl
@[simp] theorem zp4 (t : Tr) : (trP t).flat1 = true := rfl
@[simp] theorem zpw (m m' : zE) (t : Tr) : zz m' m (trP t) = trP t := rfl
end Go.Proofs.YtckabcbfbpejkaaDoor.Av
namespace Go.Proofs.YtckabcbfbpejkaaDoor.Av
open Go
set_option linter.unusedSimpArgs false
set_option linter.unusedVariables false
set_option maxRecDepth 100000
set_option maxHeartbeats 4000000
set_option pp.maxSteps 600
def Tr.atI (t : Tr) (i : Int) : Option (Int × Int) := if 0 ≤ i then t.at_ i else none
end Go.Proofs.YtckabcbfbpejkaaDoor.Av
namespace Go.Proofs.YtckabcbfbpejkaaDoor.Av
open Go
set_option linter.unusedSimpArgs false
set_option linter.unusedVariables false
set_option maxRecDepth 100000
set_option maxHeartbeats 4000000
set_option pp.maxSteps 600
end Go.Proofs.YtckabcbfbpejkaaDoor.Av
namespace Go.Proofs.YtckabcbfbpejkaaDoor.Av
open Go
set_option linter.unusedSimpArgs false
set_option linter.unusedVariables false
set_option maxRecDepth 100000
set_option maxHeartbeats 4000000
set_option pp.maxSteps 600
structure Tab where
  b : Tr
  g : Tr
  n : Int
def zjw (T : Tab) : AV := .pp [trP T.b, trP T.g, .raw (.int .i64 T.n)] 0
def tabO : Option Tab → AV
  | none => .raw (.pointer none)
  | some T => zjw T
@[simp] theorem zrl (T : Tab) : cellOK (zjw T) = true := rfl
@[simp] theorem zpx (T : Tab) : (zjw T).cells = [zjw T] := rfl
@[simp] theorem zpy (T : Tab) : (zjw T).flat1 = true := rfl
def za6 : Tab := ⟨.node .nil 0 1 .nil, .nil, 0⟩
def zdh (t : Tr) (k by_ : Int) : Tr := if (t.get k).getD 0 + by_ = 0 then t.without k else t.with_ k ((t.get k).getD 0 + by_)
structure MoreOK (t : Tr) (k by_ : Int) : Prop where
  sz : t.sz < 2 ^ 40
  lo : -2 ^ 40 < (t.get k).getD 0 + by_
  hi : (t.get k).getD 0 + by_ < 2 ^ 40
  drop : (t.get k).getD 0 + by_ = 0 → t.get k ≠ none
  room : t.get k = none → t.sz < 1024
structure RgOK (r : Rg) : Prop where
  lo0 : 0 ≤ r.lo
  lo1 : r.lo < 4294967296
  hi0 : 0 ≤ r.hi
  hi1 : r.hi < 4294967296
def zhT (r : Rg) : Int := r.lo * 4294967296 + r.hi
end Go.Proofs.YtckabcbfbpejkaaDoor.Av
namespace Go.Proofs.YtckabcbfbpejkaaDoor.Av
open Go
set_option linter.unusedSimpArgs false
set_option linter.unusedVariables false
set_option maxRecDepth 100000
set_option maxHeartbeats 4000000
set_option pp.maxSteps 600
def zqN (x : Int) : AV := .raw (.int .u64 x)
def ztw (l : List Int) : AV := .sl 1 (l.map zqN) false
def zcu (r : Rg) : List Int := if r.hi < 4294967295 then [r.lo, r.hi + 1] else [r.lo]
def Tab.with_ (T : Tab) (r : Rg) (by_ : Int) : Tab := ⟨(zcu r).foldl (fun b e => zdh b e by_) T.b, zdh T.g (zhT r) by_, T.n + by_⟩
structure WithOK (T : Tab) (r : Rg) (by_ : Int) : Prop where
  rg : RgOK r
  n0 : -2 ^ 40 < T.n + by_
  n1 : T.n + by_ < 2 ^ 40
  key : MoreOK T.g (zhT r) by_
  ends : ∀ (i : Nat) (e : Int), (zcu r)[i]? = some e → MoreOK (((zcu r).take i).foldl (fun b e => zdh b e by_) T.b) e by_
def zn4 (T : Option Tab) (r : Rg) : Option Tab × Int := if r.hi < r.lo then (none, 51) else if 500 ≤ (T.getD za6).n then (none, 41) else (some ((T.getD za6).with_ r 1), 0)
def zqO (T : Option Tab) (r : Rg) : Int := ((T.getD za6).g.get (zhT r)).getD 0
def ztx (T : Option Tab) (r : Rg) : Option Tab × Int := if zqO T r = 0 then (none, 51) else (some ((T.getD za6).with_ r (-1)), 0)
def zty (T : Option Tab) (i : Int) : Option Rg := ((T.getD za6).b.atI i).map fun p => ⟨IntKind.u32.wrap p.1, IntKind.u32.wrap (match (T.getD za6).b.atI (i + 1) with | some q => IntKind.u64.wrap (q.1 - 1) | none => 4294967295)⟩
def zn5 (T : Tab) (b : Int) : Int := (T.b.cut b).1.sz
def ofT (T : Option Tab) (a : Int) : Int := zn5 (T.getD za6) (a + 1) - 1
end Go.Proofs.YtckabcbfbpejkaaDoor.Av
namespace Go.Proofs.YtckabcbfbpejkaaDoor.Av
set_option linter.unusedSimpArgs false
set_option linter.unusedVariables false
theorem zgr {α : Type} [DecidableEq α] : ∀ {l m : List α}, l.Nodup → (∀ x ∈ l, x ∈ m) → l.length ≤ m.length
  | [], _, _, _ => by simp
  | a :: l, m, h, hs => by
    have h' := List.nodup_cons.1 h
    have := zgr (m := m.erase a) h'.2 fun x hx => by
      have hne : x ≠ a := fun e => h'.1 (e ▸ hx)
      exact (List.mem_erase_of_ne hne).2 (hs x (by simp [hx]))
    have hl := List.length_erase_of_mem (hs a (by simp))
    have hpos : 0 < m.length := List.length_pos_of_mem (hs a (by simp))
    simp only [List.length_cons]
    omega
def zc6 (n : Nat) : Option Int := if n = 0 then none else some n
theorem zlM (n : Nat) : (zc6 n).getD 0 = n := by
  unfold zc6
  split
  · rename_i h; subst h; rfl
  · rfl
theorem zlN (n : Nat) : zc6 n = none ↔ n = 0 := by
  unfold zc6
  split
  · rename_i h; simp [h]
  · rename_i h; simp [h]
structure KeyRep (t : Tr) (l : List Int) : Prop where
  srt : Tr.Srt t.toL
  get : ∀ k, t.get k = zc6 (l.count k)
theorem KeyRep.mem {t : Tr} {l : List Int} (h : KeyRep t l) (k : Int) : k ∈ t.toL.map (·.1) ↔ k ∈ l := by
  have := Tr.get_none h.srt k
  rw [h.get, zlN, List.count_eq_zero] at this
  constructor
  · intro hk
    apply Classical.byContradiction
    intro hn
    exact this.1 hn hk
  · intro hk
    apply Classical.byContradiction
    intro hn
    exact this.2 hn hk
theorem Tr.Srt.nodup {l : List (Int × Int)} (h : Tr.Srt l) : (l.map (·.1)).Nodup := by
  unfold Tr.Srt at h
  unfold List.Nodup
  rw [List.pairwise_map]
  exact h.imp fun hab => by omega
theorem KeyRep.sz {t : Tr} {l : List Int} (h : KeyRep t l) : t.sz ≤ l.length := by
  have := zgr h.srt.nodup fun x hx => (h.mem x).1 hx
  rw [Tr.sz_toL]
  simp at this
  omega
theorem KeyRep.perm {t : Tr} {l m : List Int} (h : KeyRep t l) (p : l.Perm m) : KeyRep t m := ⟨h.srt, fun k => by rw [h.get, p.count_eq]⟩
theorem KeyRep.more {t : Tr} {l : List Int} (h : KeyRep t l) (k : Int) (hl : l.length < 1024) : MoreOK t k 1 ∧ KeyRep (zdh t k 1) (k :: l) := by
  have hs := h.sz
  have hc := List.count_le_length (a := k) (l := l)
  have hg : (t.get k).getD 0 = (l.count k : Nat) := by rw [h.get, zlM]
  have hne : ¬ (t.get k).getD 0 + 1 = 0 := by omega
  refine ⟨⟨by omega, by omega, by omega, fun e => absurd e hne, fun _ => by omega⟩, ?_⟩
  unfold zdh
  rw [if_neg hne]
  refine ⟨by rw [Tr.with_toL t _ _ h.srt]; exact Tr.put_srt h.srt _ _, fun k2 => ?_⟩
  rw [Tr.get_with h.srt, List.count_cons, hg]
  by_cases e : k2 = k
  · subst e
    rw [if_pos rfl]
    unfold zc6
    simp
  · rw [if_neg e, h.get]
    have : (k == k2) = false := by simp; omega
    simp [this]
theorem Tr.get_without {t : Tr} (h : Tr.Srt t.toL) (k k2 : Int) : (t.without k).get k2 = if k2 = k then none else t.get k2 := by
  have hs : Tr.Srt (t.without k).toL := by rw [Tr.without_toL t k h]; exact h.filter _
  rw [Tr.get_eq _ _ hs, Tr.without_toL t k h, Tr.get_eq _ _ h, List.find?_filter]
  by_cases e : k2 = k
  · subst e
    rw [if_pos rfl]
    have : t.toL.find? (fun a => decide ((!decide (a.1 = k2)) = true ∧ decide (a.1 = k2) = true)) = none := List.find?_eq_none.2 fun e he => by simp
    rw [this]; rfl
  · rw [if_neg e]
    congr 2
    funext a
    by_cases q : a.1 = k2
    · have : ¬ a.1 = k := by omega
      simp [q]; omega
    · simp [q]
theorem KeyRep.less {t : Tr} {l : List Int} {k : Int} (h : KeyRep t (k :: l)) (hl : l.length < 2 ^ 30) : MoreOK t k (-1) ∧ KeyRep (zdh t k (-1)) l := by
  have hs := h.sz
  have hc := List.count_le_length (a := k) (l := l)
  have hg0 : t.get k = some ((l.count k : Nat) + 1) := by
    rw [h.get, List.count_cons_self]; unfold zc6; simp
  have hg : (t.get k).getD 0 = (l.count k : Nat) + 1 := by rw [hg0]; rfl
  simp only [List.length_cons] at hs
  refine ⟨⟨by omega, by omega, by omega, fun _ => by simp [hg0], fun e => by simp [hg0] at e⟩, ?_⟩
  unfold zdh
  rw [hg]
  split
  · rename_i h0
    refine ⟨by rw [Tr.without_toL t k h.srt]; exact h.srt.filter _, fun k2 => ?_⟩
    rw [Tr.get_without h.srt, h.get, List.count_cons]
    by_cases e : k2 = k
    · subst e
      rw [if_pos rfl]
      have : l.count k2 = 0 := by omega
      rw [this]; rfl
    · rw [if_neg e]
      have : (k == k2) = false := by simp; omega
      simp [this]
  · rename_i h0
    refine ⟨by rw [Tr.with_toL t _ _ h.srt]; exact Tr.put_srt h.srt _ _, fun k2 => ?_⟩
    rw [Tr.get_with h.srt, h.get, List.count_cons]
    by_cases e : k2 = k
    · subst e
      rw [if_pos rfl]
      have : ¬ l.count k2 = 0 := by omega
      unfold zc6
      rw [if_neg this]
      congr 1; omega
    · rw [if_neg e]
      have : (k == k2) = false := by simp; omega
      simp [this]
def zdi (L : List Rg) : List Int := L.flatMap zcu
structure TabRep (T : Tab) (L : List Rg) : Prop where
  b : KeyRep T.b (0 :: zdi L)
  g : KeyRep T.g (L.map zhT)
  n : T.n = L.length
  ok : ∀ r ∈ L, RgOK r
theorem zng : TabRep za6 [] where
  b := ⟨by simp [za6, Tr.toL, Tr.Srt], fun k => by
    simp only [za6, Tr.get, zdi, List.flatMap_nil]
    by_cases h1 : k < 0
    · have : ((0 : Int) == k) = false := by simp; omega
      simp [h1, List.count_cons, this, zc6]
    · by_cases h2 : 0 < k
      · have : ((0 : Int) == k) = false := by simp; omega
        simp [h1, h2, List.count_cons, this, zc6]
      · have : k = 0 := by omega
        subst this; simp [zc6]⟩
  g := ⟨by simp [za6, Tr.toL, Tr.Srt], fun k => by simp [za6, Tr.get, zc6]⟩
  n := rfl
  ok := by simp
theorem ziq (r : Rg) : (zcu r).length ≤ 2 := by unfold zcu; split <;> simp
theorem zlO (L : List Rg) : (zdi L).length ≤ 2 * L.length := by
  induction L with
  | nil => simp [zdi]
  | cons r L ih =>
    have := ziq r
    simp only [zdi, List.flatMap_cons, List.length_append, List.length_cons] at ih ⊢
    omega
theorem zir : ∀ (E : List Int) {t : Tr} {l : List Int}, KeyRep t l → l.length + E.length < 1024 →
    KeyRep (E.foldl (fun b e => zdh b e 1) t) (E ++ l) ∧ ∀ (i : Nat) (e : Int), E[i]? = some e → MoreOK ((E.take i).foldl (fun b e => zdh b e 1) t) e 1
  | [], t, l, h, _ => ⟨h, fun i e he => by simp at he⟩
  | x :: E, t, l, h, hl => by
    simp only [List.length_cons] at hl
    obtain ⟨h1, h2⟩ := h.more x (by omega)
    obtain ⟨h3, h4⟩ := zir E h2 (by simp only [List.length_cons]; omega)
    refine ⟨h3.perm ?_, fun i e he => ?_⟩
    · exact List.perm_middle
    · cases i with
      | zero => simp only [List.getElem?_cons_zero, Option.some.injEq] at he; subst he; exact h1
      | succ i => exact h4 i e (by simpa using he)
theorem zko {T : Tab} {L : List Rg} (h : TabRep T L) {r : Rg} (hr : RgOK r) (hl : L.length < 500) : WithOK T r 1 ∧ TabRep (T.with_ r 1) (r :: L) := by
  have he := zlO L
  have hr2 := ziq r
  obtain ⟨g1, g2⟩ := h.g.more (zhT r) (by simp only [List.length_map]; omega)
  obtain ⟨b1, b2⟩ := zir (zcu r) h.b (by simp only [List.length_cons]; omega)
  have hn := h.n
  refine ⟨⟨hr, by omega, by omega, g1, b2⟩, ⟨?_, g2, ?_, ?_⟩⟩
  · refine b1.perm ?_
    simp only [zdi, List.flatMap_cons]
    exact List.perm_middle
  · show T.n + 1 = _
    simp only [List.length_cons]; omega
  · intro x hx
    rcases List.mem_cons.1 hx with rfl | hx
    · exact hr
    · exact h.ok x hx
theorem TabRep.perm {T : Tab} {L M : List Rg} (h : TabRep T L) (p : L.Perm M) : TabRep T M where
  b := h.b.perm ((p.flatMap_right zcu).cons 0)
  g := h.g.perm (p.map zhT)
  n := by rw [h.n, p.length_eq]
  ok := fun r hr => h.ok r (p.mem_iff.2 hr)
structure Cuts (c : List Int) (L : List Rg) : Prop where
  srt : c.Pairwise (· < ·)
  mem : ∀ x, x ∈ c ↔ x = 0 ∨ ∃ r ∈ L, x ∈ zcu r
theorem zf1 : ∀ {c d : List Int}, c.Pairwise (· < ·) → d.Pairwise (· < ·) → (∀ x, x ∈ c ↔ x ∈ d) → c = d
  | [], [], _, _, _ => rfl
  | [], y :: d, _, _, h => by have := (h y).2 (by simp); simp at this
  | x :: c, [], _, _, h => by have := (h x).1 (by simp); simp at this
  | x :: c, y :: d, hc, hd, h => by
    obtain ⟨h1, h2⟩ := List.pairwise_cons.1 hc
    obtain ⟨h3, h4⟩ := List.pairwise_cons.1 hd
    have hxy : x = y := by
      rcases List.mem_cons.1 ((h x).1 (by simp)) with e | e
      · exact e
      · rcases List.mem_cons.1 ((h y).2 (by simp)) with e2 | e2
        · exact e2.symm
        · have := h1 y e2; have := h3 x e; omega
    subst hxy
    congr 1
    refine zf1 h2 h4 fun z => ?_
    constructor
    · intro hz
      rcases List.mem_cons.1 ((h z).1 (by simp [hz])) with e | e
      · subst e; have := h1 z hz; omega
      · exact e
    · intro hz
      rcases List.mem_cons.1 ((h z).2 (by simp [hz])) with e | e
      · subst e; have := h3 z hz; omega
      · exact e
def ztz (T : Tab) : List Int := T.b.toL.map (·.1)
theorem zlP {r : Rg} (hr : RgOK r) {x : Int} (hx : x ∈ zcu r) : 0 ≤ x ∧ x < 4294967296 := by
  obtain ⟨a1, a2, a3, a4⟩ := hr
  unfold zcu at hx
  split at hx
  · simp only [List.mem_cons, List.not_mem_nil, or_false] at hx; omega
  · simp only [List.mem_cons, List.not_mem_nil, or_false] at hx; omega
theorem Cuts.range {c : List Int} {L : List Rg} (h : Cuts c L) (ok : ∀ r ∈ L, RgOK r) {x : Int} (hx : x ∈ c) : 0 ≤ x ∧ x < 4294967296 := by
  rcases (h.mem x).1 hx with rfl | ⟨r, hr, hx⟩
  · omega
  · exact zlP (ok r hr) hx
def zlQ : List Int → List Rg
  | [] => []
  | [x] => [⟨x, 4294967295⟩]
  | x :: y :: l => ⟨x, y - 1⟩ :: zlQ (y :: l)
def zn6 (r a : Rg) : Option Rg := if max a.lo r.lo ≤ min a.hi r.hi then some ⟨max a.lo r.lo, min a.hi r.hi⟩ else none
def zqP (c : List Int) (r : Rg) : List Rg := (zlQ c).filterMap (zn6 r)
end Go.Proofs.YtckabcbfbpejkaaDoor.Av
namespace Go.Proofs.YtckabcbfbpejkaaDoor.Av
set_option linter.unusedSimpArgs false
set_option linter.unusedVariables false
def zdo (n : Nw) (p : Pt) : Int := ((zhb n.t p).getD ⟨0, 0⟩).dev
def zfG (n : Nw) (a : Int) : Nat → Int → List Int → Tk
  | 0, _, p => ⟨p, 4, ⟨0, 0⟩⟩
  | f + 1, d, p => if d ∈ p then ⟨p ++ [d], 4, ⟨0, 0⟩⟩ else if (za7 n d a).1 = 4 then zfG n a f (zdo n (za7 n d a).2) (p ++ [d]) else ⟨p ++ [d], (za7 n d a).1, (za7 n d a).2⟩
def zeI (n : Nw) (d : Int) : List Int := d :: n.t.links.flatMap fun l => [l.a.dev, l.b.dev]
theorem zlR (n : Nw) (d : Int) : (zeI n d).length = 1 + 2 * n.t.links.length := by
  unfold zeI
  generalize n.t.links = L
  induction L with
  | nil => rfl
  | cons l L ih => simp only [List.flatMap_cons, List.length_cons, List.length_append, List.length_nil] at ih ⊢; omega
def zhd (n : Nw) (d a : Int) : Tk := zfG n a (2 + 2 * n.t.links.length) d []
theorem zk2 (L : List Lk) : ∀ e ∈ zk0 L, ∃ l ∈ L, e.2 = l.a ∨ e.2 = l.b := by
  have : ∀ (L M : List Lk) (m : List (Pt × Pt)), (∀ e ∈ m, ∃ l ∈ M, e.2 = l.a ∨ e.2 = l.b) → ∀ e ∈ L.foldl (fun m l => upd (upd m l.a l.b) l.b l.a) m, ∃ l ∈ M ++ L, e.2 = l.a ∨ e.2 = l.b := by
    intro L
    induction L with
    | nil => intro M m h e he; simpa using h e he
    | cons l L ih =>
      intro M m h e he
      rw [List.foldl_cons] at he
      have := ih (M ++ [l]) (upd (upd m l.a l.b) l.b l.a) ?_ e he
      · simpa using this
      · intro e he
        unfold upd at he
        rcases List.mem_append.1 he with he | he
        · rcases List.mem_append.1 (List.mem_filter.1 he).1 with he | he
          · obtain ⟨k, hk, h2⟩ := h e (List.mem_filter.1 he).1
            exact ⟨k, by simp [hk], h2⟩
          · simp only [List.mem_singleton] at he; subst he
            exact ⟨l, by simp, .inr rfl⟩
        · simp only [List.mem_singleton] at he; subst he
          exact ⟨l, by simp, .inl rfl⟩
  have := this L [] [] (by simp)
  rw [List.nil_append] at this
  exact this
theorem zka {n : Nw} {p : Pt} {d : Int} (h : (zhb n.t p).isSome = true) : zdo n p ∈ zeI n d := by
  unfold zdo
  obtain ⟨q, hq⟩ := Option.isSome_iff_exists.1 h
  rw [hq]
  unfold zhb at hq
  rw [Option.map_eq_some_iff] at hq
  obtain ⟨e, he, rfl⟩ := hq
  obtain ⟨l, hl, h2⟩ := zk2 _ e (List.mem_of_find?_eq_some he)
  unfold zeI
  rw [List.mem_cons, List.mem_flatMap]
  right
  refine ⟨l, hl, ?_⟩
  rcases h2 with h2 | h2 <;> simp [h2]
theorem zlS {n : Nw} {d a : Int} (h : (za7 n d a).1 = 4) : (zhb n.t (za7 n d a).2).isSome = true := by
  unfold za7 at *
  repeat' split at h
  all_goals first | (simp at h; done) | skip
  rename_i h1 h2 h3 h4
  simp [h1, h2, h3, h4]
structure Way (n : Nw) (a d0 : Int) (d : Int) (p : List Int) : Prop where
  nd : p.Nodup
  sub : ∀ x ∈ p, x ∈ zeI n d0
  at_ : d ∈ zeI n d0
  res : zfG n a (2 + 2 * n.t.links.length - p.length) d p = zhd n d0 a
theorem Way.len {n : Nw} {a d0 d : Int} {p : List Int} (h : Way n a d0 d p) : p.length ≤ 1 + 2 * n.t.links.length := by
  have := zgr h.nd h.sub
  rwa [zlR] at this
theorem Way.start (n : Nw) (a d0 : Int) : Way n a d0 d0 [] := ⟨by simp, by simp, by simp [zeI], rfl⟩
theorem Way.again {n : Nw} {a d0 d : Int} {p : List Int} (h : Way n a d0 d p) (hd : d ∈ p) : zhd n d0 a = ⟨p ++ [d], 4, ⟨0, 0⟩⟩ := by
  have hl := h.len
  have hr := h.res
  rw [show 2 + 2 * n.t.links.length - p.length = (1 + 2 * n.t.links.length - p.length) + 1 by omega, zfG, if_pos hd] at hr
  exact hr.symm
theorem Way.fin {n : Nw} {a d0 d : Int} {p : List Int} (h : Way n a d0 d p) (hd : d ∉ p) (hs : (za7 n d a).1 ≠ 4) : zhd n d0 a = ⟨p ++ [d], (za7 n d a).1, (za7 n d a).2⟩ := by
  have hl := h.len
  have hr := h.res
  rw [show 2 + 2 * n.t.links.length - p.length = (1 + 2 * n.t.links.length - p.length) + 1 by omega, zfG, if_neg hd, if_neg hs] at hr
  exact hr.symm
theorem Way.on {n : Nw} {a d0 d : Int} {p : List Int} (h : Way n a d0 d p) (hd : d ∉ p) (hs : (za7 n d a).1 = 4) : Way n a d0 (zdo n (za7 n d a).2) (p ++ [d]) := by
  have hl := h.len
  have hr := h.res
  rw [show 2 + 2 * n.t.links.length - p.length = (1 + 2 * n.t.links.length - p.length) + 1 by omega, zfG, if_neg hd, if_pos hs] at hr
  refine ⟨?_, ?_, zka (zlS hs), ?_⟩
  · rw [List.nodup_append]
    refine ⟨h.nd, by simp, fun x hx y hy e => ?_⟩
    simp only [List.mem_singleton] at hy
    subst hy; subst e; exact hd hx
  · intro x hx
    rcases List.mem_append.1 hx with hx | hx
    · exact h.sub x hx
    · simp only [List.mem_singleton] at hx; subst hx; exact h.at_
  · rw [List.length_append, List.length_singleton, ← hr]
    congr 1; omega
end Go.Proofs.YtckabcbfbpejkaaDoor.Av
namespace Go.Proofs.YtckabcbfbpejkaaDoor.Av
set_option linter.unusedSimpArgs false
set_option linter.unusedVariables false
def zeJ (x : Int) : List Int → List Int
  | [] => [x]
  | y :: l => if x < y then x :: y :: l else if y < x then y :: zeJ x l else y :: l
theorem zgs (x z : Int) : ∀ l : List Int, z ∈ zeJ x l ↔ z = x ∨ z ∈ l
  | [] => by simp [zeJ]
  | y :: l => by
    simp only [zeJ]
    split
    · simp
    · split
      · simp only [List.mem_cons, zgs x z l]
        constructor
        · rintro (h | h | h)
          · exact .inr (.inl h)
          · exact .inl h
          · exact .inr (.inr h)
        · rintro (h | h | h)
          · exact .inr (.inl h)
          · exact .inl h
          · exact .inr (.inr h)
      · have : x = y := by omega
        subst this; simp
theorem zjx (x : Int) : ∀ l : List Int, l.Pairwise (· < ·) → (zeJ x l).Pairwise (· < ·)
  | [], _ => by simp [zeJ]
  | y :: l, h => by
    obtain ⟨h1, h2⟩ := List.pairwise_cons.1 h
    simp only [zeJ]
    split
    · rename_i hx
      refine List.pairwise_cons.2 ⟨fun z hz => ?_, h⟩
      rcases List.mem_cons.1 hz with rfl | hz
      · exact hx
      · have := h1 z hz; omega
    · split
      · rename_i hx
        refine List.pairwise_cons.2 ⟨fun z hz => ?_, zjx x l h2⟩
        rcases (zgs x z l).1 hz with rfl | hz
        · exact hx
        · exact h1 z hz
      · exact h
def zhe (L : List Rg) : List Int := (0 :: zdi L).foldr zeJ []
theorem zhf (L : List Rg) : Cuts (zhe L) L where
  srt := by
    unfold zhe
    generalize 0 :: zdi L = l
    induction l with
    | nil => simp
    | cons x l ih => exact zjx x _ ih
  mem := fun x => by
    have : ∀ l : List Int, x ∈ l.foldr zeJ [] ↔ x ∈ l := fun l => by
      induction l with
      | nil => simp
      | cons y l ih => rw [List.foldr_cons, zgs, ih, List.mem_cons]
    unfold zhe
    rw [this, List.mem_cons]
    simp only [zdi, List.mem_flatMap]
theorem Cuts.eq {c : List Int} {L : List Rg} (h : Cuts c L) : c = zhe L := zf1 h.srt (zhf L).srt fun x => by rw [h.mem, (zhf L).mem]
theorem Cuts.pos {c : List Int} {L : List Rg} (h : Cuts c L) {a : Int} (ha : 0 ≤ a) : 0 < c.countP (fun y => decide (y ≤ a)) :=
  List.countP_pos_iff.2 ⟨0, (h.mem 0).2 (.inl rfl), by simpa using ha⟩
def zk3 (s : Option (List Rg)) (r : Rg) : Option (List Rg) := if r.hi < r.lo then none else if 500 ≤ (s.getD []).length then none else some (r :: s.getD [])
def RepO : Option Tab → Option (List Rg) → Prop
  | none, none => True
  | some T, some L => TabRep T L ∧ L.length ≤ 500
  | _, _ => False
theorem RepO.get {T : Option Tab} {s : Option (List Rg)} (h : RepO T s) : TabRep (T.getD za6) (s.getD []) ∧ (s.getD []).length ≤ 500 := by
  cases T with
  | none => cases s with
    | none => exact ⟨zng, by simp⟩
    | some L => exact h.elim
  | some T => cases s with
    | none => exact h.elim
    | some L => exact h
theorem RepO.step {T : Option Tab} {s : Option (List Rg)} (h : RepO T s) {r : Rg} (hr : RgOK r) :
    (r.lo ≤ r.hi → (T.getD za6).n < 500 → WithOK (T.getD za6) r 1) ∧ RepO (zn4 T r).1 (zk3 s r) := by
  obtain ⟨h1, h2⟩ := h.get
  have hn := h1.n
  refine ⟨fun _ hlt => (zko h1 hr (by omega)).1, ?_⟩
  unfold zn4 zk3
  by_cases q1 : r.hi < r.lo
  · rw [if_pos q1, if_pos q1]; trivial
  · rw [if_neg q1, if_neg q1]
    by_cases q2 : 500 ≤ (s.getD []).length
    · rw [if_pos q2, if_pos (by omega)]; trivial
    · rw [if_neg q2, if_neg (by omega)]
      exact ⟨(zko h1 hr (by omega)).2, by simp only [List.length_cons]; omega⟩
def zpz (L : List Rg) : List Rg := (L.foldl zk3 (some [])).getD []
theorem Cuts.perm {c : List Int} {L M : List Rg} (h : Cuts c L) (p : L.Perm M) : Cuts c M := ⟨h.srt, fun x => by
  rw [h.mem]
  constructor
  · rintro (h | ⟨r, hr, hx⟩)
    · exact .inl h
    · exact .inr ⟨r, p.mem_iff.1 hr, hx⟩
  · rintro (h | ⟨r, hr, hx⟩)
    · exact .inl h
    · exact .inr ⟨r, p.mem_iff.2 hr, hx⟩⟩
end Go.Proofs.YtckabcbfbpejkaaDoor.Av
namespace Go.Proofs.YtckabcbfbpejkaaDoor.Av
open Go
set_option linter.unusedSimpArgs false
set_option linter.unusedVariables false
set_option maxRecDepth 100000
set_option maxHeartbeats 4000000
set_option pp.maxSteps 600
def zr0 (l : List (Nw × Fl)) (f : Bool) : AV := .sl 3 (l.map fun p => zqI p.1 p.2) f
def ztA (l : List Rg) (f : Bool) : AV := .sl 2 (l.map zgn) f
def zpA (l : List Nw) : List Rg := l.flatMap fun n => n.rules.map (·.r)
def zqQ (l : List Nw) (r : Rg) : List Rg := if r.hi < r.lo then [] else zqP (zhe (zpz (zpA l))) r
structure NwOK (n : Nw) : Prop where
  rg : ∀ r ∈ n.rules, RgOK r.r
  ports : n.t.ports.length < 2 ^ 44
  links : n.t.links.length < 2 ^ 42
  rules : n.rules.length < 2932031007403
  id : ∀ r ∈ n.rules, -9223372036854775808 ≤ r.id ∧ r.id < 9223372036854775808
end Go.Proofs.YtckabcbfbpejkaaDoor.Av
namespace Go.Proofs.YtckabcbfbpejkaaDoor.Av
open Go
set_option linter.unusedSimpArgs false
set_option linter.unusedVariables false
set_option maxRecDepth 100000
set_option maxHeartbeats 4000000
set_option pp.maxSteps 600
def zn7 (f : Int) (p : Pt) : AV := .agg [.raw (.int .i64 f), .raw (.int .i64 p.dev), .raw (.int .i64 p.port)]
def zrm (N : Nw) (a : Int) (iat ie : Id) (Q : Int → List Int → St → Prop) (F : St → Prop) (d : Int) (p : List Int) (r : AV) (ρ : St) : Prop :=
  (r = .raw (.bool true) ∧ ρ.m iat = some (.buf [.raw (.int .i64 d)]) ∧ ρ.m ie = some (.buf [zn7 4 ⟨0, 0⟩]) ∧ ((za7 N d a).1 ≠ 4 → ∀ π, Ext ρ π → F (π.set ie (.buf [zn7 (za7 N d a).1 (za7 N d a).2]))) ∧
    ((za7 N d a).1 = 4 → ∀ π, Ext ρ π → Q (zdo N (za7 N d a).2) (p ++ [d]) (π.set iat (.buf [.raw (.int .i64 (zdo N (za7 N d a).2))])))) ∨ (r = .raw (.bool false) ∧ F ρ)
end Go.Proofs.YtckabcbfbpejkaaDoor.Av
namespace Go.Proofs.YtckabcbfbpejkaaDoor.Av
open Go
set_option linter.unusedSimpArgs false
set_option linter.unusedVariables false
set_option maxRecDepth 100000
set_option maxHeartbeats 4000000
set_option pp.maxSteps 600
theorem OwnL.set {σ0 τ : St} {n : Nat} {v : AV} {es : List AV} (h : OwnL σ0 τ n v es) {i : Id} {o : Ob} (hi : ∀ k l, v ≠ .rs i k l) : OwnL σ0 (τ.set i o) n v es := by
  rcases h with h | ⟨j, e, hj, hm, hn⟩
  · exact .inl h
  · exact .inr ⟨j, e, hj, by rw [zT (fun e2 => hi 0 es.length (by rw [e, e2]))]; exact hm, hn⟩
theorem OwnL.del {σ0 τ : St} {n : Nat} {v : AV} {es : List AV} (h : OwnL σ0 τ n v es) {i : Id} (hi : ∀ k l, v ≠ .rs i k l) : OwnL σ0 (τ.del i) n v es := by
  rcases h with h | ⟨j, e, hj, hm, hn⟩
  · exact .inl h
  · exact .inr ⟨j, e, hj, by rw [zQ (fun e2 => hi 0 es.length (by rw [e, e2]))]; exact hm, hn⟩
structure TrS (σ ρ : St) (i6 i8 : Id) (v : AV) (p : List Int) : Prop where
  ext : Ext σ ρ
  m6 : ρ.m i6 = some (.buf [.agg [.sl 0 [] true, .raw (.int .i64 0), .raw (.int .i64 0), .raw (.int .i64 0)]])
  m8 : ρ.m i8 = some (.buf [.agg [v, .raw (.int .i64 0), .raw (.int .i64 0), .raw (.int .i64 0)]])
  own : OwnL σ ρ 1 v (p.map iAV)
theorem TrS.up {σ ρ π : St} {i6 i8 : Id} {v : AV} {p : List Int} (h : TrS σ ρ i6 i8 v p) (k : Ext ρ π) : TrS σ π i6 i8 v p := ⟨h.ext.trans k, k.m _ _ h.m6, k.m _ _ h.m8, h.own.ext k⟩
theorem TrS.put {σ ρ : St} {i6 i8 i : Id} {v : AV} {p : List Int} {o : Ob} (h : TrS σ ρ i6 i8 v p) (h6 : i6 ≠ i) (h8 : i8 ≠ i) (hv : ∀ k l, v ≠ .rs i k l) (h0 : σ.m i = none) : TrS σ (ρ.set i o) i6 i8 v p :=
  ⟨Ext.setF h.ext h0, by rw [zT h6]; exact h.m6, by rw [zT h8]; exact h.m8, h.own.set hv⟩
theorem TrS.del {σ ρ : St} {i6 i8 i : Id} {v : AV} {p : List Int} (h : TrS σ ρ i6 i8 v p) (h6 : i6 ≠ i) (h8 : i8 ≠ i) (hv : ∀ k l, v ≠ .rs i k l) (h0 : σ.m i = none) : TrS σ (ρ.del i) i6 i8 v p :=
  ⟨⟨fun j o hj => by rw [zQ (fun e => by rw [e, h0] at hj; cases hj)]; exact h.ext.m j o hj, h.ext.nx⟩, by rw [zQ h6]; exact h.m6, by rw [zQ h8]; exact h.m8, h.own.del hv⟩
def zfn (n : Nw) (d a : Int) : Tk × Int := if d < 0 ∨ n.t.ports.length ≤ d then (⟨[], 0, ⟨0, 0⟩⟩, 91) else (zhd n d a, 0)
end Go.Proofs.YtckabcbfbpejkaaDoor.Av
namespace Go.Proofs.YtckabcbfbpejkaaDoor.Av
open Go
set_option linter.unusedSimpArgs false
set_option linter.unusedVariables false
set_option maxRecDepth 100000
set_option maxHeartbeats 4000000
set_option pp.maxSteps 600
def zqR (N : Nw) (a : Int) (t : Tk) : Bool := match t.path with | [] => false | d :: _ => decide ((zfn N d a).2 = 0) && decide (t = (zfn N d a).1)
structure Qy where
  kind : Int
  a : Int
  b : Int
  w : Int
  r : Rg
  other : ByteArray
def qyAV (q : Qy) : AV := .agg [.raw (.int .i64 q.kind), .raw (.int .i64 q.a), .raw (.int .i64 q.b), .raw (.int .i64 q.w), .raw (.int .u32 q.r.lo), .raw (.int .u32 q.r.hi), .raw (.string q.other)]
def zkp (q : Qy) : Bool := decide (q.kind = 0) || (decide (q.kind = 3) || decide (q.kind = 4))
def zpB (n : Nw) (d : Int) : Bool := decide (d < 0) || decide ((n.t.ports.length : Int) ≤ d)
def zkq (t : Tk) (d : Int) : Bool := decide (t.out = 3) && decide (t.last.dev = d)
def zlT (t : Tk) (d : Int) : Bool := t.path.any fun x => decide (d = x)
end Go.Proofs.YtckabcbfbpejkaaDoor.Av
namespace Go.Proofs.YtckabcbfbpejkaaDoor.Av
open Go
set_option linter.unusedSimpArgs false
set_option linter.unusedVariables false
set_option maxRecDepth 100000
set_option maxHeartbeats 4000000
set_option pp.maxSteps 600
def znh (q : Qy) : Bool := q.other.toList == (ByteArray.toList ⟨#[]⟩)
def zn8 (n : Nw) (q : Qy) : Bool :=
  !(decide (q.kind < 0) || (decide (5 < q.kind) || decide (q.r.hi < q.r.lo))) && (!([q.a, q.b, q.w].any (zpB n)) && ((zkp q || (decide (q.a = 0) && decide (q.b = 0))) && ((decide (q.kind = 4) || decide (q.w = 0)) && (decide (q.kind = 5) || znh q))))
def zmD (n : Nw) (q : Qy) : List Int := if zkp q = true then [q.a] else (List.range n.t.ports.length).map fun i : Nat => (i : Int)
def zni (q : Qy) (t u : Tk) : Bool :=
  if q.kind = 0 then !zkq t q.b else if q.kind = 1 then decide (t.out = 4) else if q.kind = 2 then decide (t.out = 0) else if q.kind = 3 then zlT t q.b else if q.kind = 4 then zkq t q.b && !zlT t q.w else if q.kind = 5 then !decide (t = u) else false
end Go.Proofs.YtckabcbfbpejkaaDoor.Av
namespace Go.Proofs.YtckabcbfbpejkaaDoor.Av
open Go
set_option linter.unusedSimpArgs false
set_option linter.unusedVariables false
set_option maxRecDepth 100000
set_option maxHeartbeats 4000000
set_option pp.maxSteps 600
structure Vd where
  holds : Bool
  src : Int
  addr : Int
  tr : Tk
deriving DecidableEq
def vdAV (v : Vd) (f : Bool) : AV := .agg [.raw (.bool v.holds), .raw (.int .i64 v.src), .raw (.int .u32 v.addr), zav v.tr.path f, .raw (.int .i64 v.tr.out), .raw (.int .i64 v.tr.last.dev), .raw (.int .i64 v.tr.last.port)]
def zn9 : Tk := ⟨[], 0, ⟨0, 0⟩⟩
def zoa (n m : Nw) (q : Qy) (d : Int) : List Rg → Option Vd
  | [] => none
  | r :: rs => if zni q (zfn n d r.lo).1 (zfn m d r.lo).1 = true then some ⟨false, d, r.lo, (zfn n d r.lo).1⟩ else zoa n m q d rs
def zm0 (n m : Nw) (q : Qy) (P : List Rg) : List Int → Option Vd
  | [] => none
  | d :: ds => match zoa n m q d P with
    | some v => some v
    | none => zm0 n m q P ds
def runQ (n m : Nw) (q : Qy) : Vd × Int :=
  if zn8 n q = false ∨ (q.kind = 5 ∧ n.t ≠ m.t) then (⟨false, 0, 0, zn9⟩, 121) else
    match zm0 n (if q.kind = 5 then m else n) q (zqQ [n, if q.kind = 5 then m else n] q.r) (zmD n q) with
    | some v => (v, 0)
    | none => (⟨true, 0, 0, zn9⟩, 0)
def ztB : AV := .agg [.raw (.bool false), .raw (.int .i64 0), .raw (.int .u32 0), .sl 0 [] true, .raw (.int .i64 0), .raw (.int .i64 0), .raw (.int .i64 0)]
end Go.Proofs.YtckabcbfbpejkaaDoor.Av
namespace Go.Proofs.YtckabcbfbpejkaaDoor.Av
open Go
set_option linter.unusedSimpArgs false
set_option linter.unusedVariables false
set_option maxRecDepth 100000
set_option maxHeartbeats 2000000
set_option pp.maxSteps 300
def zr1 (n : Nw) : Bool := zn3 n.t && (zb8 n.rules && zpv n.t n.rules)
end Go.Proofs.YtckabcbfbpejkaaDoor.Av
namespace Go.Proofs.YtckabcbfbpejkaaDoor.Av
open Go
set_option linter.unusedSimpArgs false
set_option linter.unusedVariables false
set_option maxRecDepth 100000
set_option maxHeartbeats 2000000
set_option pp.maxSteps 600
def zqS (n : Nw) (d a : Int) : Int × Pt :=
  if zk1 n.rules d a = true then (2, ⟨0, 0⟩) else if n.rules.any (zgq d a false) = false then (0, ⟨0, 0⟩) else if (zay (n.rules.filter (zgq d a false))).kind = 1 then (1, ⟨0, 0⟩)
  else if (zju n.t.links ⟨d, (zay (n.rules.filter (zgq d a false))).port⟩).isSome = true then (4, ⟨d, (zay (n.rules.filter (zgq d a false))).port⟩) else (3, ⟨d, (zay (n.rules.filter (zgq d a false))).port⟩)
end Go.Proofs.YtckabcbfbpejkaaDoor.Av
namespace Go.Proofs.YtckabcbfbpejkaaDoor.Av
open Go
set_option linter.unusedSimpArgs false
set_option linter.unusedVariables false
set_option maxRecDepth 100000
def ztC (m : List (Pt × Pt)) (p : Pt) : Option Pt := (m.find? fun e => decide (p = e.1)).map (·.2)
def zpC : List Lk → List Pt
  | [] => []
  | l :: ls => l.a :: l.b :: zpC ls
end Go.Proofs.YtckabcbfbpejkaaDoor.Av
namespace Go.Proofs.YtckabcbfbpejkaaDoor.Av
open Go
set_option linter.unusedSimpArgs false
set_option linter.unusedVariables false
set_option maxRecDepth 100000
end Go.Proofs.YtckabcbfbpejkaaDoor.Av
namespace Go.Proofs.YtckabcbfbpejkaaDoor.Av
open Go
set_option linter.unusedSimpArgs false
set_option linter.unusedVariables false
set_option maxRecDepth 100000
end Go.Proofs.YtckabcbfbpejkaaDoor.Av
namespace Go.Proofs.YtckabcbfbpejkaaDoor.Av.Zn
open Go
set_option linter.unusedSimpArgs false
set_option linter.unusedVariables false
set_option maxRecDepth 100000
attribute [ext] Rg
def zAV (z : List Rg) (full : Bool) : AV := .sl 2 (z.map zgn) full
end Go.Proofs.YtckabcbfbpejkaaDoor.Av.Zn
namespace Go.Proofs.YtckabcbfbpejkaaDoor.Av.Zn
open Go
set_option linter.unusedSimpArgs false
set_option linter.unusedVariables false
set_option maxRecDepth 100000
set_option pp.maxSteps 300
def _root_.Go.Proofs.YtckabcbfbpejkaaDoor.Av.Rg.In (r : Rg) : Prop := 0 ≤ r.lo ∧ r.lo < 4294967296 ∧ 0 ≤ r.hi ∧ r.hi < 4294967296
def InZ (z : List Rg) : Prop := ∀ r ∈ z, r.In
def zqT (z : List Rg) (i : Nat) : Bool :=
  match z[i]? with
  | some r => decide (r.lo ≤ r.hi) && (i == 0 || match z[i - 1]? with | some p => decide (p.hi + 1 < r.lo) | none => true)
  | none => true
def rightB (z : List Rg) : Bool := (List.range z.length).all (zqT z)
end Go.Proofs.YtckabcbfbpejkaaDoor.Av.Zn
namespace Go.Proofs.YtckabcbfbpejkaaDoor.Av.Zn
open Go
set_option linter.unusedSimpArgs false
set_option linter.unusedVariables false
set_option maxRecDepth 100000
set_option pp.maxSteps 300
def zr2 (z : List Rg) (i : Nat) : Int := match i with | 0 => -2 | k + 1 => match z[k]? with | some r => r.hi | none => -2
def zr3 (z : List Rg) : AV := match z with | [] => .tup [.raw (.int .u32 0), .raw (.bool false)] | r :: _ => .tup [.raw (.int .u32 r.lo), .raw (.bool true)]
def hasB (z : List Rg) (a : Int) : Bool := z.any fun r => decide (r.lo ≤ a) && decide (a ≤ r.hi)
def zr4 (z : List Rg) : Int := (z.map fun r => r.hi - r.lo + 1).sum
end Go.Proofs.YtckabcbfbpejkaaDoor.Av.Zn
namespace Go.Proofs.YtckabcbfbpejkaaDoor.Av.Zn
open Go
set_option linter.unusedSimpArgs false
set_option linter.unusedVariables false
set_option maxRecDepth 100000
set_option pp.maxSteps 300
def cmpI (a b : Int) : Int := if a < b then -1 else if b < a then 1 else 0
def firstGe (c : Rg → Int) (z : List Rg) : Nat := z.findIdx fun r => decide (0 ≤ c r)
end Go.Proofs.YtckabcbfbpejkaaDoor.Av.Zn
namespace Go.Proofs.YtckabcbfbpejkaaDoor.Av.Zn
open Go
set_option linter.unusedSimpArgs false
set_option linter.unusedVariables false
set_option maxRecDepth 100000
set_option pp.maxSteps 300
structure But (i : Id) (σ τ : St) : Prop where
  m : ∀ l o, l ≠ i → σ.m l = some o → τ.m l = some o
  nx : ∀ s, σ.nx s ≤ τ.nx s
end Go.Proofs.YtckabcbfbpejkaaDoor.Av.Zn
namespace Go.Proofs.YtckabcbfbpejkaaDoor.Av.Zn
open Go
set_option linter.unusedSimpArgs false
set_option linter.unusedVariables false
set_option maxRecDepth 100000
end Go.Proofs.YtckabcbfbpejkaaDoor.Av.Zn
namespace Go.Proofs.YtckabcbfbpejkaaDoor.Av.Zn
set_option linter.unusedSimpArgs false
set_option linter.unusedVariables false
def MZ (z : List Rg) (a : Int) : Prop := ∃ r ∈ z, r.lo ≤ a ∧ a ≤ r.hi
theorem zjy {a : Int} : ¬ MZ [] a := fun ⟨_, h, _⟩ => by cases h
theorem zaG {r : Rg} {z : List Rg} {a : Int} : MZ (r :: z) a ↔ (r.lo ≤ a ∧ a ≤ r.hi) ∨ MZ z a := by
  constructor
  · rintro ⟨s, h, k⟩
    rcases List.mem_cons.1 h with rfl | h
    · exact .inl k
    · exact .inr ⟨s, h, k⟩
  · rintro (h | ⟨s, h, k⟩)
    · exact ⟨r, by simp, h⟩
    · exact ⟨s, by simp [h], k⟩
def RZ : Int → List Rg → Prop
  | _, [] => True
  | b, r :: z => b < r.lo ∧ r.lo ≤ r.hi ∧ RZ (r.hi + 1) z
theorem RZ.gt : ∀ {z : List Rg} {b a : Int}, RZ b z → MZ z a → b < a
  | [], _, _, _, h => absurd h zjy
  | r :: z, b, a, k, h => by
    rcases zaG.1 h with h | h
    · have := k.1; omega
    · have := RZ.gt k.2.2 h; have := k.1; have := k.2.1; omega
theorem RZ.ext : ∀ {x y : List Rg} {b c : Int}, RZ b x → RZ c y → (∀ a, MZ x a ↔ MZ y a) → x = y
  | [], [], _, _, _, _, _ => rfl
  | [], s :: y, _, _, _, k, h => absurd ((h s.lo).2 (zaG.2 (.inl ⟨Int.le_refl _, k.2.1⟩))) zjy
  | r :: x, [], _, _, k, _, h => absurd ((h r.lo).1 (zaG.2 (.inl ⟨Int.le_refl _, k.2.1⟩))) zjy
  | r :: x, s :: y, b, c, k, l, h => by
    obtain ⟨k1, k2, k3⟩ := k
    obtain ⟨l1, l2, l3⟩ := l
    have gx : ∀ {a}, MZ x a → r.hi + 1 < a := fun h => RZ.gt k3 h
    have gy : ∀ {a}, MZ y a → s.hi + 1 < a := fun h => RZ.gt l3 h
    have hlo : r.lo = s.lo := by
      have h1 := (h r.lo).1 (zaG.2 (.inl ⟨Int.le_refl _, k2⟩))
      have h2 := (h s.lo).2 (zaG.2 (.inl ⟨Int.le_refl _, l2⟩))
      rcases zaG.1 h1 with h1 | h1 <;> rcases zaG.1 h2 with h2 | h2
      · omega
      · have := gx h2; omega
      · have := gy h1; omega
      · have := gx h2; have := gy h1; omega
    have hhi : r.hi = s.hi := by
      rcases Int.lt_trichotomy r.hi s.hi with hl | hl | hl
      · have h1 := (h (r.hi + 1)).2 (zaG.2 (.inl ⟨by omega, by omega⟩))
        rcases zaG.1 h1 with h1 | h1
        · omega
        · have := gx h1; omega
      · exact hl
      · have h1 := (h (s.hi + 1)).1 (zaG.2 (.inl ⟨by omega, by omega⟩))
        rcases zaG.1 h1 with h1 | h1
        · omega
        · have := gy h1; omega
    have he : r = s := Rg.ext hlo hhi
    subst he
    congr 1
    refine RZ.ext k3 l3 fun a => ⟨fun ha => ?_, fun ha => ?_⟩
    · rcases zaG.1 ((h a).1 (zaG.2 (.inr ha))) with h1 | h1
      · have := gx ha; omega
      · exact h1
    · rcases zaG.1 ((h a).2 (zaG.2 (.inr ha))) with h1 | h1
      · have := gy ha; omega
      · exact h1
theorem RZ.at : ∀ {z : List Rg} {b : Int}, RZ b z → ∀ i r, z[i]? = some r → b < r.lo ∧ r.lo ≤ r.hi ∧ ∀ s, z[i + 1]? = some s → r.hi + 1 < s.lo
  | [], _, _, _, _, h => by simp at h
  | r :: z, b, k, 0, s, h => by
    simp at h; subst h
    refine ⟨k.1, k.2.1, fun s hs => ?_⟩
    cases z with
    | nil => simp at hs
    | cons t z => simp at hs; subst hs; exact k.2.2.1
  | r :: z, b, k, i + 1, s, h => by
    have := RZ.at k.2.2 i s (by simpa using h)
    refine ⟨by have := k.1; have := k.2.1; omega, this.2.1, fun t ht => this.2.2 t (by simpa using ht)⟩
def mg : Rg → List Rg → List Rg
  | r, [] => [r]
  | r, x :: l => if x.lo ≤ r.hi + 1 then mg ⟨r.lo, max r.hi x.hi⟩ l else r :: mg x l
def zr5 : List Rg → List Rg
  | [] => []
  | r :: l => mg r l
def zob : List Rg → List Rg → List Rg
  | r :: x, s :: y => (if max r.lo s.lo ≤ min r.hi s.hi then [⟨max r.lo s.lo, min r.hi s.hi⟩] else []) ++ if r.hi < s.hi then zob x (s :: y) else zob (r :: x) y
  | _, _ => []
termination_by x y => x.length + y.length
def zqU : Int → List Rg → List Rg
  | b, [] => if b ≤ 4294967295 then [⟨b, 4294967295⟩] else []
  | b, r :: z => (if b < r.lo then [⟨b, r.lo - 1⟩] else []) ++ zqU (r.hi + 1) z
end Go.Proofs.YtckabcbfbpejkaaDoor.Av.Zn
namespace Go.Proofs.YtckabcbfbpejkaaDoor.Av
open Go
set_option linter.unusedSimpArgs false
set_option linter.unusedVariables false
theorem zf2 : ∀ {l : List Ru} {last : Int}, zba last l = true → (∀ r ∈ l, zaC r = true) ∧ (∀ r ∈ l, last < r.id) ∧ Srt l
  | [], _, _ => ⟨by simp, by simp, List.Pairwise.nil⟩
  | r :: l, last, h => by
    simp only [zba, Bool.and_eq_true, decide_eq_true_eq] at h
    obtain ⟨⟨h1, h2⟩, h3⟩ := h
    obtain ⟨k1, k2, k3⟩ := zf2 h3
    refine ⟨fun x hx => ?_, fun x hx => ?_, List.Pairwise.cons k2 k3⟩
    · rcases List.mem_cons.1 hx with rfl | hx
      · exact h1
      · exact k1 x hx
    · rcases List.mem_cons.1 hx with rfl | hx
      · exact h2
      · have := k2 x hx; omega
theorem zmE {l : List Ru} (h : zb8 l = true) : (∀ r ∈ l, zaC r = true) ∧ Srt l := by
  unfold zb8 at h
  simp only [Bool.and_eq_true] at h
  have := zf2 h.1
  exact ⟨this.1, this.2.2⟩
theorem zjz {x y z : Ru} (h1 : zaF x y = false) (h2 : zaF z y = true) : zaF x z = false := by
  unfold zaF at *
  rw [Bool.eq_false_iff] at *
  simp only [ne_eq, Bool.or_eq_true, Bool.and_eq_true, decide_eq_true_eq] at *
  omega
theorem zlU : ∀ (n : Nat) (z : List Ru), z.length = n → z ≠ [] → zay z ∈ z ∧ ∀ r ∈ z, zaF r (zay z) = false := by
  intro n
  induction n with
  | zero => intro z hz h; exact absurd (List.length_eq_zero_iff.1 hz) h
  | succ n ihn =>
    intro z0 hz0 h0'
    obtain ⟨z, x, rfl⟩ : ∃ z x, z0 = z ++ [x] := ⟨_, _, (List.dropLast_concat_getLast h0').symm⟩
    have ih := ihn z (by simp at hz0; omega)
    rw [zlL]
    have hself : zaF x x = false := by unfold zaF; simp
    by_cases h0 : z = []
    · subst h0
      rw [if_pos rfl]
      exact ⟨by simp, fun r hr => by simp at hr; subst hr; exact hself⟩
    · rw [if_neg h0]
      obtain ⟨h1, h2⟩ := ih h0
      by_cases hb : zaF x (zay z) = true
      · rw [if_pos hb]
        refine ⟨by simp, fun r hr => ?_⟩
        rcases List.mem_append.1 hr with hr | hr
        · exact zjz (h2 r hr) hb
        · simp at hr; subst hr; exact hself
      · rw [if_neg hb]
        refine ⟨by simp [h1], fun r hr => ?_⟩
        rcases List.mem_append.1 hr with hr | hr
        · exact h2 r hr
        · simp at hr; subst hr; simpa using hb
theorem zjA {z : List Ru} (h : z ≠ []) : zay z ∈ z ∧ ∀ r ∈ z, zaF r (zay z) = false := zlU _ z rfl h
theorem zlV {l : List Ru} (hs : Srt l) {r : Ru} (h : r ∈ l) : zdg l r.id = some r := by
  unfold zdg
  induction l with
  | nil => simp at h
  | cons a l ih =>
    rw [List.find?_cons]
    rcases List.mem_cons.1 h with rfl | h
    · simp [zgp]
    · have h1 := List.rel_of_pairwise_cons hs h
      have h2 : zgp r.id a = false := by simp [zgp]; omega
      rw [h2]
      exact ih (List.Pairwise.of_cons hs) h
def zaM (d a : Int) (r : Ru) : Bool := decide (r.dev = d) && (decide (r.r.lo ≤ a) && decide (a ≤ r.r.hi))
theorem znj (l : List Ru) (d a : Int) : (l.filter (zaM d a)).filter (zaL d a) = l.filter (zaL d a) := by
  rw [List.filter_filter]
  refine List.filter_congr fun r _ => ?_
  unfold zaL zcr zaM
  cases decide (r.kind ≤ 1) <;> simp
theorem znk (l : List Ru) (d a : Int) : (l.filter (zaM d a)).filter (zd3 d a) = l.filter (zd3 d a) := by
  rw [List.filter_filter]
  refine List.filter_congr fun r _ => ?_
  unfold zd3 zcr zaM
  cases decide (1 < r.kind) <;> simp
theorem zcv (l : List Ru) (p : Ru → Bool) : l.any p = !(l.filter p).isEmpty := by
  rw [Bool.eq_iff_iff]
  simp [List.isEmpty_iff, List.filter_eq_nil_iff]
theorem zlW (l : List Ru) (d a : Int) : zbg (l.filter (zaM d a)) d a = zbg l d a ∧ zbz (l.filter (zaM d a)) d a = zbz l d a ∧ zbT (l.filter (zaM d a)) d a = zbT l d a := by
  unfold zbg zbz zbT
  rw [zcv _ (zaL d a), zcv _ (zd3 d a), znj, znk, ← zcv, ← zcv]
  exact ⟨rfl, rfl, rfl⟩
end Go.Proofs.YtckabcbfbpejkaaDoor.Av
