/- Prefix: the laws PrefixTexts, PrefixTells, PrefixSplit, PrefixParses, PrefixBack. Part 9 of 19: AvTy, AvGo, AvN1, AvN2. -/
import Derived.Test.YtckabcbfbpejkaaDoorPx8
import Derived.Test.YtckabcbfbpejkaaDoorProg
namespace Go.Proofs.YtckabcbfbpejkaaDoor.Av
set_option linter.unusedSimpArgs false
set_option linter.unusedVariables false
open Go
@[simp] theorem tsz3 : zP Tryd.prog 3 = some 1 := by kernel_rfl
@[simp] theorem tby3 : zad Tryd.prog 3 = some 8 := by kernel_rfl
@[simp] theorem tze3 : zU Tryd.prog 3 = some (.int .i64 (0)) := by kernel_rfl
@[simp] theorem tag3 : zaj Tryd.prog 3 = some false := by simp [zaj, Tryd.underlying3]
@[simp] theorem arr3 : zJ Tryd.prog 3 = none := by simp [zJ, Tryd.underlying3]
@[simp] theorem uin3 : zbZ Tryd.prog 3 = some .i64 := by kernel_rfl
@[simp] theorem pla3 : zbr Tryd.prog 3 = true := by kernel_rfl
@[simp] theorem tsz4 : zP Tryd.prog 4 = some 1 := by kernel_rfl
@[simp] theorem tby4 : zad Tryd.prog 4 = some 1 := by kernel_rfl
@[simp] theorem tze4 : zU Tryd.prog 4 = some (.bool false) := by kernel_rfl
@[simp] theorem tag4 : zaj Tryd.prog 4 = some false := by simp [zaj, Tryd.underlying4]
@[simp] theorem arr4 : zJ Tryd.prog 4 = none := by simp [zJ, Tryd.underlying4]
@[simp] theorem ubo4 : zdT Tryd.prog 4 = true := by kernel_rfl
@[simp] theorem pla4 : zbr Tryd.prog 4 = true := by kernel_rfl
@[simp] theorem tsz5 : zP Tryd.prog 5 = some 1 := by kernel_rfl
@[simp] theorem tby5 : zad Tryd.prog 5 = some 1 := by kernel_rfl
@[simp] theorem tze5 : zU Tryd.prog 5 = some (.int .u8 (0)) := by kernel_rfl
@[simp] theorem tag5 : zaj Tryd.prog 5 = some false := by simp [zaj, Tryd.underlying5]
@[simp] theorem arr5 : zJ Tryd.prog 5 = none := by simp [zJ, Tryd.underlying5]
@[simp] theorem uin5 : zbZ Tryd.prog 5 = some .u8 := by kernel_rfl
@[simp] theorem pla5 : zbr Tryd.prog 5 = true := by kernel_rfl
@[simp] theorem zor : zP Tryd.prog 9 = some 1 := by kernel_rfl
@[simp] theorem zos : zad Tryd.prog 9 = some 16 := by kernel_rfl
@[simp] theorem zot : zU Tryd.prog 9 = some (.string ⟨#[]⟩) := by kernel_rfl
@[simp] theorem tag9 : zaj Tryd.prog 9 = some false := by simp [zaj, Tryd.underlying9]
@[simp] theorem arr9 : zJ Tryd.prog 9 = none := by simp [zJ, Tryd.underlying9]
@[simp] theorem ust9 : zc5 Tryd.prog 9 = true := by kernel_rfl
@[simp] theorem pla9 : zbr Tryd.prog 9 = true := by kernel_rfl
@[simp] theorem zpw : zP Tryd.prog 22 = some 1 := by kernel_rfl
@[simp] theorem zpx : zad Tryd.prog 22 = some 4 := by kernel_rfl
@[simp] theorem zpy : zU Tryd.prog 22 = some (.int .u32 (0)) := by kernel_rfl
@[simp] theorem zpz : zaj Tryd.prog 22 = some false := by simp [zaj, Tryd.underlying22]
@[simp] theorem zpA : zJ Tryd.prog 22 = none := by simp [zJ, Tryd.underlying22]
@[simp] theorem zpB : zbZ Tryd.prog 22 = some .u32 := by kernel_rfl
@[simp] theorem zpC : zbr Tryd.prog 22 = true := by kernel_rfl
@[simp] theorem znA : zP Tryd.prog 24 = some 2 := by kernel_rfl
@[simp] theorem znB : zad Tryd.prog 24 = some 16 := by kernel_rfl
@[simp] theorem znC : zU Tryd.prog 24 = some (.agg #[(.int .u32 (0)), (.int .i64 (0))]) := by kernel_rfl
@[simp] theorem zpD : zaj Tryd.prog 24 = some true := by simp [zaj, Tryd.underlying24]
@[simp] theorem zpE : zJ Tryd.prog 24 = none := by simp [zJ, Tryd.underlying24]
@[simp] theorem zpF : zcs Tryd.prog 24 = true := by kernel_rfl
@[simp] theorem zpG : ze7 Tryd.prog 24 = true := by kernel_rfl
@[simp] theorem zoM : zaX Tryd.prog 24 0 = some (22, 0) := by kernel_rfl
@[simp] theorem zoN : zaX Tryd.prog 24 1 = some (3, 1) := by kernel_rfl
@[simp] theorem zpH : zb2 Tryd.prog 24 = some [(22, 0), (3, 1)] := by kernel_rfl
@[simp] theorem zpI : Tryd.prog.eqGuardType Tryd.prog.depth 24 = false := by kernel_rfl
@[simp] theorem zpJ : zP Tryd.prog 28 = some 2 := by kernel_rfl
@[simp] theorem zpK : zad Tryd.prog 28 = some 8 := by kernel_rfl
@[simp] theorem zpL : zU Tryd.prog 28 = some (.agg #[(.int .u32 (0)), (.int .u32 (0))]) := by kernel_rfl
@[simp] theorem zpM : zaj Tryd.prog 28 = some true := by simp [zaj, Tryd.underlying28]
@[simp] theorem zpN : zJ Tryd.prog 28 = none := by simp [zJ, Tryd.underlying28]
@[simp] theorem zpO : zcs Tryd.prog 28 = true := by kernel_rfl
@[simp] theorem zpP : ze7 Tryd.prog 28 = true := by kernel_rfl
@[simp] theorem zoO : zaX Tryd.prog 28 0 = some (22, 0) := by kernel_rfl
@[simp] theorem zoP : zaX Tryd.prog 28 1 = some (22, 1) := by kernel_rfl
@[simp] theorem zpQ : zb2 Tryd.prog 28 = some [(22, 0), (22, 1)] := by kernel_rfl
@[simp] theorem zpR : Tryd.prog.eqGuardType Tryd.prog.depth 28 = false := by kernel_rfl
@[simp] theorem zpS : zP Tryd.prog 37 = some 1 := by kernel_rfl
@[simp] theorem zpT : zad Tryd.prog 37 = some 24 := by kernel_rfl
@[simp] theorem zpU : zU Tryd.prog 37 = some (.slice none 0 0) := by kernel_rfl
@[simp] theorem zpV : zaj Tryd.prog 37 = some false := by simp [zaj, Tryd.underlying37]
@[simp] theorem zpW : zJ Tryd.prog 37 = none := by simp [zJ, Tryd.underlying37]
@[simp] theorem znD : zN Tryd.prog 37 = some 24 := by kernel_rfl
@[simp] theorem zpX : zP Tryd.prog 66 = some 1 := by kernel_rfl
@[simp] theorem zpY : zad Tryd.prog 66 = some 8 := by kernel_rfl
@[simp] theorem zpZ : zU Tryd.prog 66 = some (.int .u64 (0)) := by kernel_rfl
@[simp] theorem zp0 : zaj Tryd.prog 66 = some false := by simp [zaj, Tryd.underlying66]
@[simp] theorem zp1 : zJ Tryd.prog 66 = none := by simp [zJ, Tryd.underlying66]
@[simp] theorem zp2 : zbZ Tryd.prog 66 = some .u64 := by kernel_rfl
@[simp] theorem zp3 : zbr Tryd.prog 66 = true := by kernel_rfl
@[simp] theorem zp4 : zP Tryd.prog 67 = some 4 := by kernel_rfl
@[simp] theorem zp5 : zad Tryd.prog 67 = some 4 := by kernel_rfl
@[simp] theorem zp6 : zU Tryd.prog 67 = some (.agg #[(.int .u8 (0)), (.int .u8 (0)), (.int .u8 (0)), (.int .u8 (0))]) := by kernel_rfl
@[simp] theorem zp7 : zaj Tryd.prog 67 = some true := by simp [zaj, Tryd.underlying67]
@[simp] theorem zp8 : zJ Tryd.prog 67 = some (4, 5) := by simp [zJ, Tryd.underlying67]
@[simp] theorem zp9 : zP Tryd.prog 68 = some 1 := by kernel_rfl
@[simp] theorem zqa : zad Tryd.prog 68 = some 24 := by kernel_rfl
@[simp] theorem zqb : zU Tryd.prog 68 = some (.slice none 0 0) := by kernel_rfl
@[simp] theorem zqc : zaj Tryd.prog 68 = some false := by simp [zaj, Tryd.underlying68]
@[simp] theorem zqd : zJ Tryd.prog 68 = none := by simp [zJ, Tryd.underlying68]
@[simp] theorem znE : zN Tryd.prog 68 = some 9 := by kernel_rfl
@[simp] theorem zqe : zP Tryd.prog 94 = some 1 := by kernel_rfl
@[simp] theorem zqf : zad Tryd.prog 94 = some 8 := by kernel_rfl
@[simp] theorem zqg : zU Tryd.prog 94 = some (.int .u64 (0)) := by kernel_rfl
@[simp] theorem zqh : zaj Tryd.prog 94 = some false := by simp [zaj, Tryd.underlying94]
@[simp] theorem zqi : zJ Tryd.prog 94 = none := by simp [zJ, Tryd.underlying94]
@[simp] theorem zqj : zbZ Tryd.prog 94 = some .u64 := by kernel_rfl
@[simp] theorem zqk : zbr Tryd.prog 94 = true := by kernel_rfl
@[simp] theorem zpg : zP Tryd.prog 101 = some 1 := by kernel_rfl
@[simp] theorem zph : zad Tryd.prog 101 = some 16 := by kernel_rfl
@[simp] theorem zpi : zU Tryd.prog 101 = some .nilIface := by kernel_rfl
@[simp] theorem zpj : zaj Tryd.prog 101 = some false := by simp [zaj, Tryd.underlying101]
@[simp] theorem zpk : zJ Tryd.prog 101 = none := by simp [zJ, Tryd.underlying101]
@[simp] theorem zpl : zev Tryd.prog 101 = true := by kernel_rfl
theorem zlq : SlT Tryd.prog 37 2 16 := ⟨⟨24, _, znD, znA, znB, znC, rfl, by decide, by decide⟩⟩
theorem zlr : SlT Tryd.prog 68 1 16 := ⟨⟨9, _, znE, zor, zos, zot, rfl, by decide, by decide⟩⟩
theorem mixed : Tryd.prog.follows .mixedOrders = true := by kernel_rfl
end Go.Proofs.YtckabcbfbpejkaaDoor.Av
namespace Go.Proofs.YtckabcbfbpejkaaDoor.Av
set_option linter.unusedSimpArgs false
set_option linter.unusedVariables false
open Go
theorem Ext.setF {σ τ : St} {i : Id} {o : Ob} (h : Ext σ τ) (hi : σ.m i = none) : Ext σ (τ.set i o) := ⟨fun j p hj => by
    have hne : j ≠ i := fun e => by rw [e, hi] at hj; cases hj
    simp only [St.set, hne, false_and, if_false]
    exact h.m j p hj, h.nx⟩
theorem zoQ {τ : St} {i : Id} {o p : Ob} (h : τ.m i = some p) : (τ.set i o).m i = some o := by simp [St.set, h]
theorem zpm {τ : St} {i j : Id} {o : Ob} (h : j ≠ i) : (τ.set i o).m j = τ.m j := by simp [St.set, h]
theorem zh {σ : St} {slot sz : Nat} {o : Ob} {j : Id} : (σ.new slot sz o).m j = if j = ⟨slot, σ.nx slot, sz⟩ then some o else σ.m j := rfl
theorem zl {σ : St} {i j : Id} {o : Ob} : (σ.set i o).m j = if j = i ∧ (σ.m i).isSome = true then some o else σ.m j := rfl
theorem zb {σ : St} {slot sz s : Nat} {o : Ob} : (σ.new slot sz o).nx s = if s = slot then σ.nx s + 1 else σ.nx s := rfl
section
variable {P : Program} {N : Nat} {A : zc} {σ σ0 : St} {r : Option Nat} {K : Exit → zc → St → Prop}
def zdq (v : AV) (X Y : Prop) : Prop := zdo v X Y
@[congr] theorem zm0 {tk : Prop} (hx : (True ∧ True) = tk) {v v' : AV} {X Y : Prop} (h : v = v') : zdq v X Y = zdq v' X Y := by rw [h]
@[simp] theorem zoR {X Y : Prop} : zdq (.raw (.bool true)) X Y = X := by simp [zdq, zdo]
@[simp] theorem zoS {X Y : Prop} : zdq (.raw (.bool false)) X Y = Y := by simp [zdq, zdo]
theorem zY {c : Operand} {x y : Code} (h : zdq (za A c) (AWP P r N x K A σ) (AWP P r N y K A σ)) : AWP P r N (.cond c x y) K A σ := zfF h
theorem zE {b : Bool} {X Y : Prop} (h1 : b = true → X) (h2 : b = false → Y) : zdq (.raw (.bool b)) X Y := ⟨h1, h2⟩
def zjE (P : Program) (r : Option Nat) (N : Nat) (c : Code) (K : Exit → zc → St → Prop) (A : zc) (σ : St) : Prop := match c with
  | .skip => K .normal A σ
  | .exit n => K (.exit n) A σ
  | .ret => K .ret A σ
  | c => AWP P r N c K A σ
theorem zaM {c : Code} (h : zjE P r N c K A σ) : AWP P r N c K A σ := by
  cases c <;> first | exact zkI h | exact zkJ h | exact zlw h | exact h
theorem zaN : zjE P r N .skip K A σ = K .normal A σ ∧ (∀ n, zjE P r N (.exit n) K A σ = K (.exit n) A σ) ∧ zjE P r N .ret K A σ = K .ret A σ := ⟨rfl, fun _ => rfl, rfl⟩
theorem dN {id : Nat} {ops : List Oper} (hc : zgS ops (fun _ => false) = true) (h : dops Tryd.prog N (ops.map (zco ops fun _ => false)) A σ (K .normal)) : AWP Tryd.prog r N (.region id ops.toArray true) K A σ := zhc _ mixed hc h
theorem dC {id : Nat} {ops : List Oper} (hc : zgS ops zfb = true) (h : dops Tryd.prog N (ops.map (zco ops zfb)) A σ (K .normal)) : AWP Tryd.prog r N (.region id ops.toArray true) K A σ := zhc _ mixed hc h
theorem uP {f : FuncId} {args : List AV} {rv : AV} {K : AV → St → Prop} (h : PCalls P f args rv) (k : K rv σ) : ACalls P f args σ K := h.use k
theorem uD {f : FuncId} {args : List AV} {rv : AV} {X : Prop} {m : zo} {K : AV → St → Prop} (h : PCalls P f args rv) (k : K rv σ) : (∃ r, RCalls P m f args r ∧ K r σ) ∨ X := .inl ⟨_, .inl h, k⟩
theorem nsE : (∀ {σ : St} {slot sz : Nat} {o : Ob} {j : Id}, (σ.new slot sz o).m j = if j = ⟨slot, σ.nx slot, sz⟩ then some o else σ.m j) ∧ (∀ {σ : St} {i j : Id} {o : Ob}, (σ.set i o).m j = if j = i ∧ (σ.m i).isSome = true then some o else σ.m j) ∧ (∀ {σ : St} {slot sz s : Nat} {o : Ob}, (σ.new slot sz o).nx s = if s = slot then σ.nx s + 1 else σ.nx s) := ⟨rfl, rfl, rfl⟩
end
structure Hd (H : Prop) : Prop where
  h : H
theorem zr {G : Prop} (w : G := by (try ((first | with_reducible refine z6 ?_ | with_reducible refine zam ?_ | with_reducible refine zan ?_); simp [-cellOK, FF])); repeat' (first | ((first | refine zY ?_ | refine z8 ?_ | refine dN (by decide +kernel) ?_ | refine dC (by decide +kernel) ?_ | refine uP (by assumption) ?_ | refine .inl ⟨_, .inl (by assumption), ?_⟩ | (refine zp ?_ ?_ <;> (intro hg; simp only [hg])) | fail) <;> simp [-cellOK, FF]) | refine z1 ?_ | refine zH ?_ | (refine zaM ?_; simp only [zaN]; try simp) | (refine zat (by simp) ?_; simp) | (refine zfc (by simp) (by simp [noIds]) (by repeat (first | assumption | exact Ext.refl _ | refine zdi ?_ | refine Ext.setF ?_ (by first | assumption | (simp [zb, St.set, zah]; done) | exact zbm (by assumption)))) ?_; simp [-cellOK, FF, nsE]) | (refine zE (fun hc => ?_) (fun hc => ?_) <;> try simp at hc) | fail)) : G := w
theorem gxB {G H : Prop} (k : H) (w : Hd H → G := by intro hH; (try ((first | with_reducible refine z6 ?_ | with_reducible refine zam ?_ | with_reducible refine zan ?_); simp [-cellOK, FF])); (repeat' (first | ((first | refine zY ?_ | refine z8 ?_ | refine dN (by decide +kernel) ?_ | refine dC (by decide +kernel) ?_ | refine uP (by assumption) ?_ | refine .inl ⟨_, .inl (by assumption), ?_⟩ | (refine zp ?_ ?_ <;> (intro hg; simp only [hg])) | fail) <;> simp [-cellOK, FF]) | refine z1 ?_ | refine zH ?_ | (refine zaM ?_; simp only [zaN]; try simp) | (refine zat (by simp) ?_; simp) | (refine zfc (by simp) (by simp [noIds]) (by repeat (first | assumption | exact Ext.refl _ | refine zdi ?_ | refine Ext.setF ?_ (by first | assumption | (simp [zb, St.set, zah]; done) | exact zbm (by assumption)))) ?_; simp [-cellOK, FF, nsE]) | (refine zE (fun hc => ?_) (fun hc => ?_) <;> try simp at hc) | fail)); exact hH.h) : G := w ⟨k⟩
theorem gxC {G H : Prop} (k : H) (w : Hd H → G := by intro hH; (try ((first | with_reducible refine z6 ?_ | with_reducible refine zam ?_ | with_reducible refine zan ?_); simp [-cellOK, FF])); (repeat' (first | ((first | refine zY ?_ | refine z8 ?_ | refine dN (by decide +kernel) ?_ | refine dC (by decide +kernel) ?_ | refine uP (by assumption) ?_ | refine .inl ⟨_, .inl (by assumption), ?_⟩ | (refine zp ?_ ?_ <;> (intro hg; simp only [hg])) | fail) <;> simp [-cellOK, FF]) | refine z1 ?_ | refine zH ?_ | (refine zaM ?_; simp only [zaN]; try simp) | (refine zE (fun hc => ?_) (fun hc => ?_) <;> try simp at hc) | fail)); exact hH.h) : G := w ⟨k⟩
theorem goA {G : Prop} (w : G := by (try ((first | with_reducible refine z6 ?_ | with_reducible refine zam ?_ | with_reducible refine zan ?_); simp [FF])); repeat' (first | ((first | refine zY ?_ | refine z8 ?_ | refine dN (by decide +kernel) ?_ | (refine zp ?_ ?_ <;> (intro hg; simp only [hg])) | fail) <;> simp [FF]) | refine z1 ?_ | refine zH ?_ | (refine zaM ?_; simp only [zaN]; try simp) | ((first | refine zat (by simp) ?_ | refine zbl (by simp) (by simp) (by simp (maxDischargeDepth := 30) [FF]) ?_ | fail); simp) | (refine zE (fun hc => ?_) (fun hc => ?_) <;> try simp at hc) | fail)) : G := w
theorem goB {G H : Prop} (k : H) (w : Hd H → G := by intro hH; (try ((first | with_reducible refine z6 ?_ | with_reducible refine zam ?_ | with_reducible refine zan ?_); simp [FF])); (repeat' (first | ((first | refine zY ?_ | refine z8 ?_ | refine dN (by decide +kernel) ?_ | (refine zp ?_ ?_ <;> (intro hg; simp only [hg])) | fail) <;> simp [FF]) | refine z1 ?_ | refine zH ?_ | (refine zaM ?_; simp only [zaN]; try simp) | ((first | refine zat (by simp) ?_ | refine zbl (by simp) (by simp) (by simp (maxDischargeDepth := 30) [FF]) ?_ | fail); simp) | (refine zE (fun hc => ?_) (fun hc => ?_) <;> try simp at hc) | fail)); exact hH.h) : G := w ⟨k⟩
theorem goC {G H : Prop} (k : H) (w : Hd H → G := by intro hH; (try ((first | with_reducible refine z6 ?_ | with_reducible refine zam ?_ | with_reducible refine zan ?_); simp [FF])); (repeat' (first | ((first | refine zY ?_ | refine z8 ?_ | refine dN (by decide +kernel) ?_ | (refine zp ?_ ?_ <;> (intro hg; simp only [hg])) | fail) <;> simp [FF]) | refine z1 ?_ | refine zH ?_ | (refine zaM ?_; simp only [zaN]; try simp) | (refine zE (fun hc => ?_) (fun hc => ?_) <;> try simp at hc) | fail)); exact hH.h) : G := w ⟨k⟩
theorem goN {G : Prop} (w : G := by (try ((first | with_reducible refine z6 ?_ | with_reducible refine zam ?_ | with_reducible refine zan ?_); simp [FF])); repeat' (first | ((first | refine z8 ?_ | refine dN (by decide +kernel) ?_ | (refine zp ?_ ?_ <;> (intro hg; simp only [hg])) | fail) <;> simp [FF]) | refine z1 ?_ | refine zH ?_ | (refine zaM ?_; simp only [zaN]; try simp) | ((first | refine zat (by simp) ?_ | refine zbl (by simp) (by simp) (by simp (maxDischargeDepth := 30) [FF]) ?_ | fail); simp) | (apply zeb; focus (simp [FF]; done)) | (apply zec; focus (simp [FF]; done)) | fail)) : G := w
theorem goM {G H : Prop} (k : H) (w : Hd H → G := by intro hH; (try ((first | with_reducible refine z6 ?_ | with_reducible refine zam ?_ | with_reducible refine zan ?_); simp [FF])); (repeat' (first | ((first | refine z8 ?_ | refine dN (by decide +kernel) ?_ | (refine zp ?_ ?_ <;> (intro hg; simp only [hg])) | fail) <;> simp [FF]) | refine z1 ?_ | refine zH ?_ | (refine zaM ?_; simp only [zaN]; try simp) | ((first | refine zat (by simp) ?_ | refine zbl (by simp) (by simp) (by simp (maxDischargeDepth := 30) [FF]) ?_ | fail); simp) | (apply zeb; focus (simp [FF]; done)) | (apply zec; focus (simp [FF]; done)) | fail)); exact hH.h) : G := w ⟨k⟩
theorem zou {G : Prop} (w : G := by (try ((first | with_reducible refine z6 ?_ | with_reducible refine zam ?_ | with_reducible refine zan ?_); simp [-cellOK])); repeat' (first | ((first | refine zY ?_ | refine z8 ?_ | refine dN (by decide +kernel) ?_ | refine dC (by decide +kernel) ?_ | refine uP (by assumption) ?_ | refine .inl ⟨_, .inl (by assumption), ?_⟩ | (refine zp ?_ ?_ <;> (intro hg; simp only [hg])) | fail) <;> simp [-cellOK]) | refine z1 ?_ | refine zH ?_ | (refine zaM ?_; simp only [zaN]; try simp) | (refine zat (by simp) ?_; simp) | (refine zfc (by simp) (by simp [noIds]) (by repeat (first | assumption | exact Ext.refl _ | refine zdi ?_ | refine Ext.setF ?_ (by first | assumption | (simp [zb, St.set, zah]; done) | exact zbm (by assumption)))) ?_; simp [-cellOK, nsE]) | (refine zE (fun hc => ?_) (fun hc => ?_) <;> try simp at hc) | fail)) : G := w
theorem gxB0 {G H : Prop} (k : H) (w : Hd H → G := by intro hH; (try ((first | with_reducible refine z6 ?_ | with_reducible refine zam ?_ | with_reducible refine zan ?_); simp [-cellOK])); (repeat' (first | ((first | refine zY ?_ | refine z8 ?_ | refine dN (by decide +kernel) ?_ | refine dC (by decide +kernel) ?_ | refine uP (by assumption) ?_ | refine .inl ⟨_, .inl (by assumption), ?_⟩ | (refine zp ?_ ?_ <;> (intro hg; simp only [hg])) | fail) <;> simp [-cellOK]) | refine z1 ?_ | refine zH ?_ | (refine zaM ?_; simp only [zaN]; try simp) | (refine zat (by simp) ?_; simp) | (refine zfc (by simp) (by simp [noIds]) (by repeat (first | assumption | exact Ext.refl _ | refine zdi ?_ | refine Ext.setF ?_ (by first | assumption | (simp [zb, St.set, zah]; done) | exact zbm (by assumption)))) ?_; simp [-cellOK, nsE]) | (refine zE (fun hc => ?_) (fun hc => ?_) <;> try simp at hc) | fail)); exact hH.h) : G := w ⟨k⟩
theorem zov {G H : Prop} (k : H) (w : Hd H → G := by intro hH; (try ((first | with_reducible refine z6 ?_ | with_reducible refine zam ?_ | with_reducible refine zan ?_); simp [-cellOK])); (repeat' (first | ((first | refine zY ?_ | refine z8 ?_ | refine dN (by decide +kernel) ?_ | refine dC (by decide +kernel) ?_ | refine uP (by assumption) ?_ | refine .inl ⟨_, .inl (by assumption), ?_⟩ | (refine zp ?_ ?_ <;> (intro hg; simp only [hg])) | fail) <;> simp [-cellOK]) | refine z1 ?_ | refine zH ?_ | (refine zaM ?_; simp only [zaN]; try simp) | (refine zE (fun hc => ?_) (fun hc => ?_) <;> try simp at hc) | fail)); exact hH.h) : G := w ⟨k⟩
theorem goA0 {G : Prop} (w : G := by (try ((first | with_reducible refine z6 ?_ | with_reducible refine zam ?_ | with_reducible refine zan ?_); simp)); repeat' (first | ((first | refine zY ?_ | refine z8 ?_ | refine dN (by decide +kernel) ?_ | (refine zp ?_ ?_ <;> (intro hg; simp only [hg])) | fail) <;> simp) | refine z1 ?_ | refine zH ?_ | (refine zaM ?_; simp only [zaN]; try simp) | ((first | refine zat (by simp) ?_ | refine zbl (by simp) (by simp) (by simp (maxDischargeDepth := 30)) ?_ | fail); simp) | (refine zE (fun hc => ?_) (fun hc => ?_) <;> try simp at hc) | fail)) : G := w
theorem zow {G H : Prop} (k : H) (w : Hd H → G := by intro hH; (try ((first | with_reducible refine z6 ?_ | with_reducible refine zam ?_ | with_reducible refine zan ?_); simp)); (repeat' (first | ((first | refine zY ?_ | refine z8 ?_ | refine dN (by decide +kernel) ?_ | (refine zp ?_ ?_ <;> (intro hg; simp only [hg])) | fail) <;> simp) | refine z1 ?_ | refine zH ?_ | (refine zaM ?_; simp only [zaN]; try simp) | ((first | refine zat (by simp) ?_ | refine zbl (by simp) (by simp) (by simp (maxDischargeDepth := 30)) ?_ | fail); simp) | (refine zE (fun hc => ?_) (fun hc => ?_) <;> try simp at hc) | fail)); exact hH.h) : G := w ⟨k⟩
theorem zmo {G H : Prop} (k : H) (w : Hd H → G := by intro hH; (try ((first | with_reducible refine z6 ?_ | with_reducible refine zam ?_ | with_reducible refine zan ?_); simp)); (repeat' (first | ((first | refine zY ?_ | refine z8 ?_ | refine dN (by decide +kernel) ?_ | (refine zp ?_ ?_ <;> (intro hg; simp only [hg])) | fail) <;> simp) | refine z1 ?_ | refine zH ?_ | (refine zaM ?_; simp only [zaN]; try simp) | (refine zE (fun hc => ?_) (fun hc => ?_) <;> try simp at hc) | fail)); exact hH.h) : G := w ⟨k⟩
theorem goD {G H : Prop} (k : H) (w : Hd H → G := by intro hH; (try ((first | with_reducible refine z6 ?_ | with_reducible refine zam ?_ | with_reducible refine zan ?_); simp)); exact hH.h) : G := w ⟨k⟩
theorem exA {σ τ : St} (w : Ext σ τ := by repeat (first | assumption | exact Ext.refl _ | refine zdi ?_ | refine Ext.setF ?_ (by first | assumption | (simp [zb, St.set, zah]; done) | exact zbm (by assumption)))) : Ext σ τ := w
theorem fI {a b : Prop} (h : a) (k : b) : a ∧ b := ⟨h, k⟩
end Go.Proofs.YtckabcbfbpejkaaDoor.Av
namespace Go.Proofs.YtckabcbfbpejkaaDoor.Av
open Go
set_option linter.unusedSimpArgs false
set_option linter.unusedVariables false
set_option maxRecDepth 100000
set_option maxHeartbeats 1000000
set_option pp.maxSteps 300
structure Pt where
  dev : Int
  port : Int
deriving DecidableEq
structure Lk where
  a : Pt
  b : Pt
deriving DecidableEq
structure Rg where
  lo : Int
  hi : Int
deriving DecidableEq
structure Ru where
  id : Int
  dev : Int
  prio : Int
  kind : Int
  r : Rg
  port : Int
deriving DecidableEq
structure Tp where
  ports : List Int
  links : List Lk
deriving DecidableEq
structure Nw where
  t : Tp
  rules : List Ru
deriving DecidableEq
def iAV (n : Int) : AV := .raw (.int .i64 n)
def uAV (n : Int) : AV := .raw (.int .u32 n)
def ptAV (p : Pt) : AV := .agg [.raw (.int .i64 p.dev), .raw (.int .i64 p.port)]
def zox (l : Lk) : AV := .agg [.raw (.int .i64 l.a.dev), .raw (.int .i64 l.a.port), .raw (.int .i64 l.b.dev), .raw (.int .i64 l.b.port)]
def rgAV (r : Rg) : AV := .agg [.raw (.int .u32 r.lo), .raw (.int .u32 r.hi)]
def zoy (r : Ru) : AV := .agg [.raw (.int .i64 r.id), .raw (.int .i64 r.dev), .raw (.int .i64 r.prio), .raw (.int .i64 r.kind), .raw (.int .u32 r.r.lo), .raw (.int .u32 r.r.hi), .raw (.int .i64 r.port)]
def zkm (l : List Int) (f : Bool) : AV := .sl 1 (l.map iAV) f
def zi8 (l : List Lk) (f : Bool) : AV := .sl 4 (l.map zox) f
def zlE (l : List Ru) (f : Bool) : AV := .sl 7 (l.map zoy) f
structure Fl where
  p : Bool
  l : Bool
  r : Bool
def tpAV (t : Tp) (f : Fl) : AV := .agg [zkm t.ports f.p, zi8 t.links f.l]
def nwAV (n : Nw) (f : Fl) : AV := .agg [zkm n.t.ports f.p, zi8 n.t.links f.l, zlE n.rules f.r]
def hasB (t : Tp) (p : Pt) : Bool := decide (0 ≤ p.dev) && match t.ports[p.dev.toNat]? with | some n => decide (0 ≤ p.port) && decide (p.port < n) | none => false
def zpn (r : Ru) (d a : Int) : Bool := decide (r.dev = d) && (decide (r.r.lo ≤ a) && decide (a ≤ r.r.hi))
def zk1 (a b : Int) : Int := if a < b then -1 else if b < a then 1 else 0
end Go.Proofs.YtckabcbfbpejkaaDoor.Av
namespace Go.Proofs.YtckabcbfbpejkaaDoor.Av
open Go
set_option linter.unusedSimpArgs false
set_option linter.unusedVariables false
set_option maxRecDepth 100000
set_option maxHeartbeats 1000000
set_option pp.maxSteps 300
def zlt (r : Ru) : Bool := decide (1 ≤ r.id) && decide (r.id ≤ 1048576) && (decide (0 ≤ r.dev) && decide (r.dev ≤ 7)) && (decide (0 ≤ r.prio) && decide (r.prio ≤ 1024)) && (decide (0 ≤ r.kind) && decide (r.kind ≤ 3)) &&
  (decide (0 ≤ r.port) && decide (r.port ≤ 3)) && (decide (r.kind = 0) || decide (r.port = 0)) && decide (r.r.lo ≤ r.r.hi)
def zpo (x y : Ru) : Int := if zk1 y.prio x.prio = 0 then zk1 x.id y.id else zk1 y.prio x.prio
end Go.Proofs.YtckabcbfbpejkaaDoor.Av
