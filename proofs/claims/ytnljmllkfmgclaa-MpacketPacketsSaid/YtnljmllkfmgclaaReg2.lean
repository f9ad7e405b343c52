/-
  STEPS OF A DRAWN REGION, more of them: copy, append, a slice built, a store of many cells.
  Over any program. Conditions: none beyond what each lemma names.
-/
import Derived.Test.YtnljmllkfmgclaaReg
namespace Go.Proofs.Ytnljmllkfmgclaa
open Go.RowKit
set_option linter.unusedVariables false
set_option linter.unusedSimpArgs false
section
variable {P : Program} {ops : Array Oper} {Q : Exit → Act → World → Prop} {R : World → World → Prop}
theorem exec_copy {a : Act} {o : Oper} {w w' : World} {v : Value} {as : Array Operand} {ts : Array TypeId} (ho : o.op = .call { callee := .builtin .copy, args := as, argTypes := ts }) (args : Array Value) (hargs : as.map a.eval = args)
    (h : (Builtin.copy_ ts o.type args).run P w = .ok v w') : (execOp a.eval o).run P w = .ok (.value v) w' := by
  subst hargs
  unfold execOp
  simp only [ho, resolve, invoke, builtin, Sem.run_bind, Sem.run_pure, Result.andThen_ok, h]
theorem exec_append {a : Act} {o : Oper} {w w' : World} {v : Value} {as : Array Operand} {ts : Array TypeId} (ho : o.op = .call { callee := .builtin .append, args := as, argTypes := ts }) (args : Array Value) (hargs : as.map a.eval = args)
    (h : (Builtin.append_ ts o.type args).run P w = .ok v w') : (execOp a.eval o).run P w = .ok (.value v) w' := by
  subst hargs
  unfold execOp
  simp only [ho, resolve, invoke, builtin, Sem.run_bind, Sem.run_pure, Result.andThen_ok, h]
theorem exec_store {a : Act} {o : Oper} {w w' : World} {t : TypeId} {x y : Operand} (ho : o.op = .store t x y) {vx vy : Value} (hx : a.eval x = vx) (hy : a.eval y = vy)
    (h : (Instr.storeAt t vx vy).run P w = .ok () w') : (execOp a.eval o).run P w = .ok .skip w' := by
  subst hx; subst hy
  unfold execOp
  simp only [ho, Sem.run_bind, Sem.run_pure, Result.andThen_ok, h]
theorem exec_load {a : Act} {o : Oper} {w w' : World} {t : TypeId} {x : Operand} {v : Value} (ho : o.op = .load t x) {vx : Value} (hx : a.eval x = vx)
    (h : (Instr.loadAt t vx).run P w = .ok v w') : (execOp a.eval o).run P w = .ok (.value v) w' := by
  subst hx
  unfold execOp
  simp only [ho, Sem.run_bind, Sem.run_pure, Result.andThen_ok, h]
theorem exec_build {a : Act} {o : Oper} {w w' : World} {v : Value} {t : TypeId} {parts : Array (Nat × Operand)} (ho : o.op = .build t parts) (ps : Array (Nat × Value)) (hps : (parts.map fun (i, x) => (i, a.eval x)) = ps)
    (h : (Instr.build t ps).run P w = .ok v w') : (execOp a.eval o).run P w = .ok (.value v) w' := by
  subst hps
  unfold execOp
  simp only [ho, Sem.run_bind, Sem.run_pure, Result.andThen_ok, h]
theorem exec_buildSlice {a : Act} {o : Oper} {w w' : World} {v : Value} {t : TypeId} {n : Nat} {parts : Array (Nat × Operand)} (ho : o.op = .buildSlice t n parts) (ps : Array (Nat × Value)) (hps : (parts.map fun (i, x) => (i, a.eval x)) = ps)
    (h : (Instr.buildSlice t n ps).run P w = .ok v w') : (execOp a.eval o).run P w = .ok (.value v) w' := by
  subst hps
  unfold execOp
  simp only [ho, Sem.run_bind, Sem.run_pure, Result.andThen_ok, h]
theorem run_store1 {w : World} {t : TypeId} (hz : (P.info? t).map (·.size) = some 1) {v u : Value} (h1 : v.oneCell' = true) (hc : v.cells = #[v]) {b o : Nat} (hcell : w.cell? ⟨b, o, none⟩ = some u) (hf : w.frozen? ⟨b, o, none⟩ = false) :
    (Instr.storeAt t (.pointer (some ⟨b, o, none⟩)) v).run P w = .ok () (w.setCell ⟨b, o, none⟩ v) := by
  cases hq : P.info? t with
  | none => rw [hq] at hz; cases hz
  | some i =>
    have hs : i.size = 1 := by rw [hq] at hz; simpa using hz
    have hst : (store (⟨b, o, none⟩ : Addr) v).run P w = .ok () (w.setCell ⟨b, o, none⟩ v) := by
      rw [run_store P w _ v _ h1, hcell]
      simp [hf]
    simp [Instr.storeAt, Instr.sureAddr, storeVar, sizeOf, typeInfo, hq, hs, hc, storeCells, add_off, hst]
/-! In a plain region's list, by the operation's own run. -/
theorem wpList_by {rest : List Oper} {o : Oper} {a : Act} {w w' : World} {v : Value} (hgd : o.guard = none) (hr : (execOp a.eval o).run P w = .ok (.value v) w') (h : wpList P ops Q rest (a.put o.dst v) w') : wpList P ops Q (o :: rest) a w :=
  wpList_plain hgd fun K hK => by
    unfold Oper.wp
    rw [hr]
    exact hK _ _ h
theorem wpList_store_by {rest : List Oper} {o : Oper} {a : Act} {w w' : World} {t : TypeId} (hgd : o.guard = none) (x y : Operand) (ho : o.op = .store t x y) (hd : o.dst = none) (vx vy : Value) (hx : a.eval x = vx) (hy : a.eval y = vy) (hr : (Instr.storeAt t vx vy).run P w = .ok () w') (h : wpList P ops Q rest a w') : wpList P ops Q (o :: rest) a w :=
  wpList_plain hgd fun K hK => by
    unfold Oper.wp
    rw [exec_store ho hx hy hr]
    show K (a.put o.dst undef) w'
    rw [hd]
    exact hK a w' h
theorem wpList_load_by {rest : List Oper} {o : Oper} {a : Act} {w w' : World} {t : TypeId} {v : Value} (hgd : o.guard = none) (x : Operand) (ho : o.op = .load t x) (vx : Value) (hx : a.eval x = vx) (hr : (Instr.loadAt t vx).run P w = .ok v w') (h : wpList P ops Q rest (a.put o.dst v) w') : wpList P ops Q (o :: rest) a w :=
  wpList_by hgd (exec_load ho hx hr) h
end
end Go.Proofs.Ytnljmllkfmgclaa
