/- The law PrefixNested Part 9 of 19: AvTy, AvGo. -/
import Derived.Test.YtckabcbfbpejkaaDoorPn8
import Derived.Test.YtckabcbfbpejkaaDoorProg
namespace Go.Proofs.YtckabcbfbpejkaaDoor.Av
set_option linter.unusedSimpArgs false
set_option linter.unusedVariables false
open Go
@[simp] theorem tsz3 : zx Tryd.prog 3 = some 1 := by kernel_rfl
@[simp] theorem tby3 : zQ Tryd.prog 3 = some 8 := by kernel_rfl
@[simp] theorem tze3 : zG Tryd.prog 3 = some (.int .i64 (0)) := by kernel_rfl
@[simp] theorem tag3 : zW Tryd.prog 3 = some false := by simp [zW, Tryd.underlying3]
@[simp] theorem arr3 : zy Tryd.prog 3 = none := by simp [zy, Tryd.underlying3]
@[simp] theorem uin3 : zbj Tryd.prog 3 = some .i64 := by kernel_rfl
@[simp] theorem pla3 : zaU Tryd.prog 3 = true := by kernel_rfl
@[simp] theorem tsz4 : zx Tryd.prog 4 = some 1 := by kernel_rfl
@[simp] theorem tby4 : zQ Tryd.prog 4 = some 1 := by kernel_rfl
@[simp] theorem tze4 : zG Tryd.prog 4 = some (.bool false) := by kernel_rfl
@[simp] theorem tag4 : zW Tryd.prog 4 = some false := by simp [zW, Tryd.underlying4]
@[simp] theorem arr4 : zy Tryd.prog 4 = none := by simp [zy, Tryd.underlying4]
@[simp] theorem ubo4 : zcU Tryd.prog 4 = true := by kernel_rfl
@[simp] theorem pla4 : zaU Tryd.prog 4 = true := by kernel_rfl
@[simp] theorem tsz5 : zx Tryd.prog 5 = some 1 := by kernel_rfl
@[simp] theorem tby5 : zQ Tryd.prog 5 = some 1 := by kernel_rfl
@[simp] theorem tze5 : zG Tryd.prog 5 = some (.int .u8 (0)) := by kernel_rfl
@[simp] theorem tag5 : zW Tryd.prog 5 = some false := by simp [zW, Tryd.underlying5]
@[simp] theorem arr5 : zy Tryd.prog 5 = none := by simp [zy, Tryd.underlying5]
@[simp] theorem uin5 : zbj Tryd.prog 5 = some .u8 := by kernel_rfl
@[simp] theorem pla5 : zaU Tryd.prog 5 = true := by kernel_rfl
@[simp] theorem zmm : zx Tryd.prog 9 = some 1 := by kernel_rfl
@[simp] theorem zmn : zQ Tryd.prog 9 = some 16 := by kernel_rfl
@[simp] theorem zmo : zG Tryd.prog 9 = some (.string ⟨#[]⟩) := by kernel_rfl
@[simp] theorem tag9 : zW Tryd.prog 9 = some false := by simp [zW, Tryd.underlying9]
@[simp] theorem arr9 : zy Tryd.prog 9 = none := by simp [zy, Tryd.underlying9]
@[simp] theorem ust9 : zcc Tryd.prog 9 = true := by kernel_rfl
@[simp] theorem pla9 : zaU Tryd.prog 9 = true := by kernel_rfl
@[simp] theorem znp : zx Tryd.prog 22 = some 1 := by kernel_rfl
@[simp] theorem znq : zQ Tryd.prog 22 = some 4 := by kernel_rfl
@[simp] theorem znr : zG Tryd.prog 22 = some (.int .u32 (0)) := by kernel_rfl
@[simp] theorem zns : zW Tryd.prog 22 = some false := by simp [zW, Tryd.underlying22]
@[simp] theorem znt : zy Tryd.prog 22 = none := by simp [zy, Tryd.underlying22]
@[simp] theorem znu : zbj Tryd.prog 22 = some .u32 := by kernel_rfl
@[simp] theorem znv : zaU Tryd.prog 22 = true := by kernel_rfl
@[simp] theorem zls : zx Tryd.prog 24 = some 2 := by kernel_rfl
@[simp] theorem zlt : zQ Tryd.prog 24 = some 16 := by kernel_rfl
@[simp] theorem zlu : zG Tryd.prog 24 = some (.agg #[(.int .u32 (0)), (.int .i64 (0))]) := by kernel_rfl
@[simp] theorem znw : zW Tryd.prog 24 = some true := by simp [zW, Tryd.underlying24]
@[simp] theorem znx : zy Tryd.prog 24 = none := by simp [zy, Tryd.underlying24]
@[simp] theorem zny : zbA Tryd.prog 24 = true := by kernel_rfl
@[simp] theorem znz : zdV Tryd.prog 24 = true := by kernel_rfl
@[simp] theorem zmE : zan Tryd.prog 24 0 = some (22, 0) := by kernel_rfl
@[simp] theorem zmF : zan Tryd.prog 24 1 = some (3, 1) := by kernel_rfl
@[simp] theorem znA : zbb Tryd.prog 24 = some [(22, 0), (3, 1)] := by kernel_rfl
@[simp] theorem znB : Tryd.prog.eqGuardType Tryd.prog.depth 24 = false := by kernel_rfl
@[simp] theorem znC : zx Tryd.prog 28 = some 2 := by kernel_rfl
@[simp] theorem znD : zQ Tryd.prog 28 = some 8 := by kernel_rfl
@[simp] theorem znE : zG Tryd.prog 28 = some (.agg #[(.int .u32 (0)), (.int .u32 (0))]) := by kernel_rfl
@[simp] theorem znF : zW Tryd.prog 28 = some true := by simp [zW, Tryd.underlying28]
@[simp] theorem znG : zy Tryd.prog 28 = none := by simp [zy, Tryd.underlying28]
@[simp] theorem znH : zbA Tryd.prog 28 = true := by kernel_rfl
@[simp] theorem znI : zdV Tryd.prog 28 = true := by kernel_rfl
@[simp] theorem zmG : zan Tryd.prog 28 0 = some (22, 0) := by kernel_rfl
@[simp] theorem zmH : zan Tryd.prog 28 1 = some (22, 1) := by kernel_rfl
@[simp] theorem znJ : zbb Tryd.prog 28 = some [(22, 0), (22, 1)] := by kernel_rfl
@[simp] theorem znK : Tryd.prog.eqGuardType Tryd.prog.depth 28 = false := by kernel_rfl
@[simp] theorem znL : zx Tryd.prog 37 = some 1 := by kernel_rfl
@[simp] theorem znM : zQ Tryd.prog 37 = some 24 := by kernel_rfl
@[simp] theorem znN : zG Tryd.prog 37 = some (.slice none 0 0) := by kernel_rfl
@[simp] theorem znO : zW Tryd.prog 37 = some false := by simp [zW, Tryd.underlying37]
@[simp] theorem znP : zy Tryd.prog 37 = none := by simp [zy, Tryd.underlying37]
@[simp] theorem zlv : zt Tryd.prog 37 = some 24 := by kernel_rfl
@[simp] theorem znQ : zx Tryd.prog 67 = some 4 := by kernel_rfl
@[simp] theorem znR : zQ Tryd.prog 67 = some 4 := by kernel_rfl
@[simp] theorem znS : zG Tryd.prog 67 = some (.agg #[(.int .u8 (0)), (.int .u8 (0)), (.int .u8 (0)), (.int .u8 (0))]) := by kernel_rfl
@[simp] theorem znT : zW Tryd.prog 67 = some true := by simp [zW, Tryd.underlying67]
@[simp] theorem znU : zy Tryd.prog 67 = some (4, 5) := by simp [zy, Tryd.underlying67]
@[simp] theorem znV : zx Tryd.prog 68 = some 1 := by kernel_rfl
@[simp] theorem znW : zQ Tryd.prog 68 = some 24 := by kernel_rfl
@[simp] theorem znX : zG Tryd.prog 68 = some (.slice none 0 0) := by kernel_rfl
@[simp] theorem znY : zW Tryd.prog 68 = some false := by simp [zW, Tryd.underlying68]
@[simp] theorem znZ : zy Tryd.prog 68 = none := by simp [zy, Tryd.underlying68]
@[simp] theorem zlw : zt Tryd.prog 68 = some 9 := by kernel_rfl
@[simp] theorem zn0 : zx Tryd.prog 94 = some 1 := by kernel_rfl
@[simp] theorem zn1 : zQ Tryd.prog 94 = some 8 := by kernel_rfl
@[simp] theorem zn2 : zG Tryd.prog 94 = some (.int .u64 (0)) := by kernel_rfl
@[simp] theorem zn3 : zW Tryd.prog 94 = some false := by simp [zW, Tryd.underlying94]
@[simp] theorem zn4 : zy Tryd.prog 94 = none := by simp [zy, Tryd.underlying94]
@[simp] theorem zn5 : zbj Tryd.prog 94 = some .u64 := by kernel_rfl
@[simp] theorem zn6 : zaU Tryd.prog 94 = true := by kernel_rfl
@[simp] theorem zm8 : zx Tryd.prog 101 = some 1 := by kernel_rfl
@[simp] theorem zm9 : zQ Tryd.prog 101 = some 16 := by kernel_rfl
@[simp] theorem zna : zG Tryd.prog 101 = some .nilIface := by kernel_rfl
@[simp] theorem znb : zW Tryd.prog 101 = some false := by simp [zW, Tryd.underlying101]
@[simp] theorem znc : zy Tryd.prog 101 = none := by simp [zy, Tryd.underlying101]
@[simp] theorem znd : zdn Tryd.prog 101 = true := by kernel_rfl
theorem zlx : SlT Tryd.prog 37 2 16 := ⟨⟨24, _, zlv, zls, zlt, zlu, rfl, by decide, by decide⟩⟩
theorem zly : SlT Tryd.prog 68 1 16 := ⟨⟨9, _, zlw, zmm, zmn, zmo, rfl, by decide, by decide⟩⟩
theorem mixed : Tryd.prog.follows .mixedOrders = true := by kernel_rfl
end Go.Proofs.YtckabcbfbpejkaaDoor.Av
namespace Go.Proofs.YtckabcbfbpejkaaDoor.Av
set_option linter.unusedSimpArgs false
set_option linter.unusedVariables false
open Go
theorem Ext.setF {σ τ : St} {i : Id} {o : Ob} (h : Ext σ τ) (hi : σ.m i = none) : Ext σ (τ.set i o) := ⟨fun j p hj => by
    have hne : j ≠ i := fun e => by rw [e, hi] at hj; cases hj
    simp only [St.set, hne, false_and, if_false]
    exact h.m j p hj, h.nx⟩
theorem zmI {τ : St} {i : Id} {o p : Ob} (h : τ.m i = some p) : (τ.set i o).m i = some o := by simp [St.set, h]
theorem zne {τ : St} {i j : Id} {o : Ob} (h : j ≠ i) : (τ.set i o).m j = τ.m j := by simp [St.set, h]
theorem zV {σ : St} {slot sz : Nat} {o : Ob} {j : Id} : (σ.new slot sz o).m j = if j = ⟨slot, σ.nx slot, sz⟩ then some o else σ.m j := rfl
theorem zZ {σ : St} {i j : Id} {o : Ob} : (σ.set i o).m j = if j = i ∧ (σ.m i).isSome = true then some o else σ.m j := rfl
theorem zo {σ : St} {slot sz s : Nat} {o : Ob} : (σ.new slot sz o).nx s = if s = slot then σ.nx s + 1 else σ.nx s := rfl
section
variable {P : Program} {N : Nat} {A : zb} {σ σ0 : St} {r : Option Nat} {K : Exit → zb → St → Prop}
def zcv (v : AV) (X Y : Prop) : Prop := zct v X Y
@[congr] theorem zkS {tk : Prop} (hx : (True ∧ True) = tk) {v v' : AV} {X Y : Prop} (h : v = v') : zcv v X Y = zcv v' X Y := by rw [h]
@[simp] theorem zmJ {X Y : Prop} : zcv (.raw (.bool true)) X Y = X := by simp [zcv, zct]
@[simp] theorem zmK {X Y : Prop} : zcv (.raw (.bool false)) X Y = Y := by simp [zcv, zct]
theorem zK {c : Operand} {x y : Code} (h : zcv (za A c) (AWP P r N x K A σ) (AWP P r N y K A σ)) : AWP P r N (.cond c x y) K A σ := zeh h
theorem zz {b : Bool} {X Y : Prop} (h1 : b = true → X) (h2 : b = false → Y) : zcv (.raw (.bool b)) X Y := ⟨h1, h2⟩
def zhJ (P : Program) (r : Option Nat) (N : Nat) (c : Code) (K : Exit → zb → St → Prop) (A : zb) (σ : St) : Prop := match c with
  | .skip => K .normal A σ
  | .exit n => K (.exit n) A σ
  | .ret => K .ret A σ
  | c => AWP P r N c K A σ
theorem zaB {c : Code} (h : zhJ P r N c K A σ) : AWP P r N c K A σ := by
  cases c <;> first | exact ziJ h | exact ziK h | exact zjn h | exact h
theorem zaC : zhJ P r N .skip K A σ = K .normal A σ ∧ (∀ n, zhJ P r N (.exit n) K A σ = K (.exit n) A σ) ∧ zhJ P r N .ret K A σ = K .ret A σ := ⟨rfl, fun _ => rfl, rfl⟩
theorem dN {id : Nat} {ops : List Oper} (hc : zfn ops (fun _ => false) = true) (h : dops Tryd.prog N (ops.map (zby ops fun _ => false)) A σ (K .normal)) : AWP Tryd.prog r N (.region id ops.toArray true) K A σ := zfF _ mixed hc h
theorem dC {id : Nat} {ops : List Oper} (hc : zfn ops zdZ = true) (h : dops Tryd.prog N (ops.map (zby ops zdZ)) A σ (K .normal)) : AWP Tryd.prog r N (.region id ops.toArray true) K A σ := zfF _ mixed hc h
theorem uP {f : FuncId} {args : List AV} {rv : AV} {K : AV → St → Prop} (h : PCalls P f args rv) (k : K rv σ) : ACalls P f args σ K := h.use k
theorem uD {f : FuncId} {args : List AV} {rv : AV} {X : Prop} {m : zg} {K : AV → St → Prop} (h : PCalls P f args rv) (k : K rv σ) : (∃ r, RCalls P m f args r ∧ K r σ) ∨ X := .inl ⟨_, .inl h, k⟩
theorem nsE : (∀ {σ : St} {slot sz : Nat} {o : Ob} {j : Id}, (σ.new slot sz o).m j = if j = ⟨slot, σ.nx slot, sz⟩ then some o else σ.m j) ∧ (∀ {σ : St} {i j : Id} {o : Ob}, (σ.set i o).m j = if j = i ∧ (σ.m i).isSome = true then some o else σ.m j) ∧ (∀ {σ : St} {slot sz s : Nat} {o : Ob}, (σ.new slot sz o).nx s = if s = slot then σ.nx s + 1 else σ.nx s) := ⟨rfl, rfl, rfl⟩
end
structure Hd (H : Prop) : Prop where
  h : H
theorem gxA {G : Prop} (w : G := by (try ((first | with_reducible refine zM ?_ | with_reducible refine zaa ?_ | with_reducible refine zab ?_); simp [-cellOK, FF])); repeat' (first | ((first | refine zK ?_ | refine zT ?_ | refine dN (by decide +kernel) ?_ | refine dC (by decide +kernel) ?_ | refine uP (by assumption) ?_ | refine .inl ⟨_, .inl (by assumption), ?_⟩ | (refine zk ?_ ?_ <;> (intro hg; simp only [hg])) | fail) <;> simp [-cellOK, FF]) | refine zL ?_ | refine zA ?_ | (refine zaB ?_; simp only [zaC]; try simp) | (refine z6 (by simp) ?_; simp) | (refine zd0 (by simp) (by simp [noIds]) (by repeat (first | assumption | exact Ext.refl _ | refine zcp ?_ | refine Ext.setF ?_ (by first | assumption | (simp [zo, St.set, zY]; done) | exact zaM (by assumption)))) ?_; simp [-cellOK, FF, nsE]) | (refine zz (fun hc => ?_) (fun hc => ?_) <;> try simp at hc) | fail)) : G := w
theorem gxB {G H : Prop} (k : H) (w : Hd H → G := by intro hH; (try ((first | with_reducible refine zM ?_ | with_reducible refine zaa ?_ | with_reducible refine zab ?_); simp [-cellOK, FF])); (repeat' (first | ((first | refine zK ?_ | refine zT ?_ | refine dN (by decide +kernel) ?_ | refine dC (by decide +kernel) ?_ | refine uP (by assumption) ?_ | refine .inl ⟨_, .inl (by assumption), ?_⟩ | (refine zk ?_ ?_ <;> (intro hg; simp only [hg])) | fail) <;> simp [-cellOK, FF]) | refine zL ?_ | refine zA ?_ | (refine zaB ?_; simp only [zaC]; try simp) | (refine z6 (by simp) ?_; simp) | (refine zd0 (by simp) (by simp [noIds]) (by repeat (first | assumption | exact Ext.refl _ | refine zcp ?_ | refine Ext.setF ?_ (by first | assumption | (simp [zo, St.set, zY]; done) | exact zaM (by assumption)))) ?_; simp [-cellOK, FF, nsE]) | (refine zz (fun hc => ?_) (fun hc => ?_) <;> try simp at hc) | fail)); exact hH.h) : G := w ⟨k⟩
theorem gxC {G H : Prop} (k : H) (w : Hd H → G := by intro hH; (try ((first | with_reducible refine zM ?_ | with_reducible refine zaa ?_ | with_reducible refine zab ?_); simp [-cellOK, FF])); (repeat' (first | ((first | refine zK ?_ | refine zT ?_ | refine dN (by decide +kernel) ?_ | refine dC (by decide +kernel) ?_ | refine uP (by assumption) ?_ | refine .inl ⟨_, .inl (by assumption), ?_⟩ | (refine zk ?_ ?_ <;> (intro hg; simp only [hg])) | fail) <;> simp [-cellOK, FF]) | refine zL ?_ | refine zA ?_ | (refine zaB ?_; simp only [zaC]; try simp) | (refine zz (fun hc => ?_) (fun hc => ?_) <;> try simp at hc) | fail)); exact hH.h) : G := w ⟨k⟩
theorem goA {G : Prop} (w : G := by (try ((first | with_reducible refine zM ?_ | with_reducible refine zaa ?_ | with_reducible refine zab ?_); simp [FF])); repeat' (first | ((first | refine zK ?_ | refine zT ?_ | refine dN (by decide +kernel) ?_ | (refine zk ?_ ?_ <;> (intro hg; simp only [hg])) | fail) <;> simp [FF]) | refine zL ?_ | refine zA ?_ | (refine zaB ?_; simp only [zaC]; try simp) | ((first | refine z6 (by simp) ?_ | refine zaL (by simp) (by simp) (by simp (maxDischargeDepth := 30) [FF]) ?_ | fail); simp) | (refine zz (fun hc => ?_) (fun hc => ?_) <;> try simp at hc) | fail)) : G := w
theorem goB {G H : Prop} (k : H) (w : Hd H → G := by intro hH; (try ((first | with_reducible refine zM ?_ | with_reducible refine zaa ?_ | with_reducible refine zab ?_); simp [FF])); (repeat' (first | ((first | refine zK ?_ | refine zT ?_ | refine dN (by decide +kernel) ?_ | (refine zk ?_ ?_ <;> (intro hg; simp only [hg])) | fail) <;> simp [FF]) | refine zL ?_ | refine zA ?_ | (refine zaB ?_; simp only [zaC]; try simp) | ((first | refine z6 (by simp) ?_ | refine zaL (by simp) (by simp) (by simp (maxDischargeDepth := 30) [FF]) ?_ | fail); simp) | (refine zz (fun hc => ?_) (fun hc => ?_) <;> try simp at hc) | fail)); exact hH.h) : G := w ⟨k⟩
theorem goC {G H : Prop} (k : H) (w : Hd H → G := by intro hH; (try ((first | with_reducible refine zM ?_ | with_reducible refine zaa ?_ | with_reducible refine zab ?_); simp [FF])); (repeat' (first | ((first | refine zK ?_ | refine zT ?_ | refine dN (by decide +kernel) ?_ | (refine zk ?_ ?_ <;> (intro hg; simp only [hg])) | fail) <;> simp [FF]) | refine zL ?_ | refine zA ?_ | (refine zaB ?_; simp only [zaC]; try simp) | (refine zz (fun hc => ?_) (fun hc => ?_) <;> try simp at hc) | fail)); exact hH.h) : G := w ⟨k⟩
theorem goN {G : Prop} (w : G := by (try ((first | with_reducible refine zM ?_ | with_reducible refine zaa ?_ | with_reducible refine zab ?_); simp [FF])); repeat' (first | ((first | refine zT ?_ | refine dN (by decide +kernel) ?_ | (refine zk ?_ ?_ <;> (intro hg; simp only [hg])) | fail) <;> simp [FF]) | refine zL ?_ | refine zA ?_ | (refine zaB ?_; simp only [zaC]; try simp) | ((first | refine z6 (by simp) ?_ | refine zaL (by simp) (by simp) (by simp (maxDischargeDepth := 30) [FF]) ?_ | fail); simp) | (apply zda; focus (simp [FF]; done)) | (apply zdb; focus (simp [FF]; done)) | fail)) : G := w
theorem goM {G H : Prop} (k : H) (w : Hd H → G := by intro hH; (try ((first | with_reducible refine zM ?_ | with_reducible refine zaa ?_ | with_reducible refine zab ?_); simp [FF])); (repeat' (first | ((first | refine zT ?_ | refine dN (by decide +kernel) ?_ | (refine zk ?_ ?_ <;> (intro hg; simp only [hg])) | fail) <;> simp [FF]) | refine zL ?_ | refine zA ?_ | (refine zaB ?_; simp only [zaC]; try simp) | ((first | refine z6 (by simp) ?_ | refine zaL (by simp) (by simp) (by simp (maxDischargeDepth := 30) [FF]) ?_ | fail); simp) | (apply zda; focus (simp [FF]; done)) | (apply zdb; focus (simp [FF]; done)) | fail)); exact hH.h) : G := w ⟨k⟩
theorem zmp {G : Prop} (w : G := by (try ((first | with_reducible refine zM ?_ | with_reducible refine zaa ?_ | with_reducible refine zab ?_); simp [-cellOK])); repeat' (first | ((first | refine zK ?_ | refine zT ?_ | refine dN (by decide +kernel) ?_ | refine dC (by decide +kernel) ?_ | refine uP (by assumption) ?_ | refine .inl ⟨_, .inl (by assumption), ?_⟩ | (refine zk ?_ ?_ <;> (intro hg; simp only [hg])) | fail) <;> simp [-cellOK]) | refine zL ?_ | refine zA ?_ | (refine zaB ?_; simp only [zaC]; try simp) | (refine z6 (by simp) ?_; simp) | (refine zd0 (by simp) (by simp [noIds]) (by repeat (first | assumption | exact Ext.refl _ | refine zcp ?_ | refine Ext.setF ?_ (by first | assumption | (simp [zo, St.set, zY]; done) | exact zaM (by assumption)))) ?_; simp [-cellOK, nsE]) | (refine zz (fun hc => ?_) (fun hc => ?_) <;> try simp at hc) | fail)) : G := w
theorem gxB0 {G H : Prop} (k : H) (w : Hd H → G := by intro hH; (try ((first | with_reducible refine zM ?_ | with_reducible refine zaa ?_ | with_reducible refine zab ?_); simp [-cellOK])); (repeat' (first | ((first | refine zK ?_ | refine zT ?_ | refine dN (by decide +kernel) ?_ | refine dC (by decide +kernel) ?_ | refine uP (by assumption) ?_ | refine .inl ⟨_, .inl (by assumption), ?_⟩ | (refine zk ?_ ?_ <;> (intro hg; simp only [hg])) | fail) <;> simp [-cellOK]) | refine zL ?_ | refine zA ?_ | (refine zaB ?_; simp only [zaC]; try simp) | (refine z6 (by simp) ?_; simp) | (refine zd0 (by simp) (by simp [noIds]) (by repeat (first | assumption | exact Ext.refl _ | refine zcp ?_ | refine Ext.setF ?_ (by first | assumption | (simp [zo, St.set, zY]; done) | exact zaM (by assumption)))) ?_; simp [-cellOK, nsE]) | (refine zz (fun hc => ?_) (fun hc => ?_) <;> try simp at hc) | fail)); exact hH.h) : G := w ⟨k⟩
theorem gxC0 {G H : Prop} (k : H) (w : Hd H → G := by intro hH; (try ((first | with_reducible refine zM ?_ | with_reducible refine zaa ?_ | with_reducible refine zab ?_); simp [-cellOK])); (repeat' (first | ((first | refine zK ?_ | refine zT ?_ | refine dN (by decide +kernel) ?_ | refine dC (by decide +kernel) ?_ | refine uP (by assumption) ?_ | refine .inl ⟨_, .inl (by assumption), ?_⟩ | (refine zk ?_ ?_ <;> (intro hg; simp only [hg])) | fail) <;> simp [-cellOK]) | refine zL ?_ | refine zA ?_ | (refine zaB ?_; simp only [zaC]; try simp) | (refine zz (fun hc => ?_) (fun hc => ?_) <;> try simp at hc) | fail)); exact hH.h) : G := w ⟨k⟩
theorem goA0 {G : Prop} (w : G := by (try ((first | with_reducible refine zM ?_ | with_reducible refine zaa ?_ | with_reducible refine zab ?_); simp)); repeat' (first | ((first | refine zK ?_ | refine zT ?_ | refine dN (by decide +kernel) ?_ | (refine zk ?_ ?_ <;> (intro hg; simp only [hg])) | fail) <;> simp) | refine zL ?_ | refine zA ?_ | (refine zaB ?_; simp only [zaC]; try simp) | ((first | refine z6 (by simp) ?_ | refine zaL (by simp) (by simp) (by simp (maxDischargeDepth := 30)) ?_ | fail); simp) | (refine zz (fun hc => ?_) (fun hc => ?_) <;> try simp at hc) | fail)) : G := w
theorem zmq {G H : Prop} (k : H) (w : Hd H → G := by intro hH; (try ((first | with_reducible refine zM ?_ | with_reducible refine zaa ?_ | with_reducible refine zab ?_); simp)); (repeat' (first | ((first | refine zK ?_ | refine zT ?_ | refine dN (by decide +kernel) ?_ | (refine zk ?_ ?_ <;> (intro hg; simp only [hg])) | fail) <;> simp) | refine zL ?_ | refine zA ?_ | (refine zaB ?_; simp only [zaC]; try simp) | ((first | refine z6 (by simp) ?_ | refine zaL (by simp) (by simp) (by simp (maxDischargeDepth := 30)) ?_ | fail); simp) | (refine zz (fun hc => ?_) (fun hc => ?_) <;> try simp at hc) | fail)); exact hH.h) : G := w ⟨k⟩
theorem zmr {G H : Prop} (k : H) (w : Hd H → G := by intro hH; (try ((first | with_reducible refine zM ?_ | with_reducible refine zaa ?_ | with_reducible refine zab ?_); simp)); (repeat' (first | ((first | refine zK ?_ | refine zT ?_ | refine dN (by decide +kernel) ?_ | (refine zk ?_ ?_ <;> (intro hg; simp only [hg])) | fail) <;> simp) | refine zL ?_ | refine zA ?_ | (refine zaB ?_; simp only [zaC]; try simp) | (refine zz (fun hc => ?_) (fun hc => ?_) <;> try simp at hc) | fail)); exact hH.h) : G := w ⟨k⟩
theorem goD {G H : Prop} (k : H) (w : Hd H → G := by intro hH; (try ((first | with_reducible refine zM ?_ | with_reducible refine zaa ?_ | with_reducible refine zab ?_); simp)); exact hH.h) : G := w ⟨k⟩
theorem exA {σ τ : St} (w : Ext σ τ := by repeat (first | assumption | exact Ext.refl _ | refine zcp ?_ | refine Ext.setF ?_ (by first | assumption | (simp [zo, St.set, zY]; done) | exact zaM (by assumption)))) : Ext σ τ := w
theorem fI {a b : Prop} (h : a) (k : b) : a ∧ b := ⟨h, k⟩
end Go.Proofs.YtckabcbfbpejkaaDoor.Av
