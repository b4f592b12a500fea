/- Single operations of a region as steps: whatever the guard, by what the operation yields. -/
import Derived.Test.YtblfmofhfbbmdaaDoorRec0
set_option linter.unusedVariables false
set_option linter.unusedSimpArgs false
namespace Go.Proofs.YtblfmofhfbbmdaaDoor
open Go.RowKit
section
variable {P : Program} {ops : Array Oper} {rest : List Oper} {o : Oper} {a : Act} {Q : Exit → Act → World → Prop} {w w1 : World} {u v r : Value}
theorem go_value (hw : Region.wanted o (yielded ops a.tmps) = true) (hrun : (execOp a.eval o).run P w = .ok (.value v) w1) (h : wpList P ops Q rest (a.put o.dst v) w1) : wpList P ops Q (o :: rest) a w := by
  refine wpList_step fun K hK => ?_
  rw [if_pos hw]
  unfold Oper.wp
  rw [hrun]
  exact hK _ _ h
theorem go_skip (hw : Region.wanted o (yielded ops a.tmps) = true) (hrun : (execOp a.eval o).run P w = .ok .skip w1) (h : wpList P ops Q rest (a.put o.dst undef) w1) : wpList P ops Q (o :: rest) a w := by
  refine wpList_step fun K hK => ?_
  rw [if_pos hw]
  unfold Oper.wp
  rw [hrun]
  exact hK _ _ h
theorem ex_load {ty : TypeId} {x : Operand} {ad : Addr} (h : (loadVar ty ad).run P w = .ok v w) (ho : o.op = .load ty x) (hx : a.eval x = .pointer (some ad)) : (execOp a.eval o).run P w = .ok (.value v) w := by
  unfold execOp
  simp only [ho, hx, Instr.loadAt, Instr.sureAddr, Sem.run_bind, Sem.run_pure, Result.andThen_ok, h]
theorem ex_build {t : TypeId} {parts : Array (Nat × Operand)} {cells : Array Value} {vals : List (Nat × Value)} (h : P.built t vals = some cells) (ho : o.op = .build t parts) (hv : parts.toList.map (fun p => (p.1, a.eval p.2)) = vals) : (execOp a.eval o).run P w = .ok (.value (.agg cells)) w := by
  subst hv
  have h' : P.built t (parts.map fun (i, x) => (i, a.eval x)).toList = some cells := by rw [Array.toList_map]; exact h
  unfold execOp
  simp only [ho, Sem.run_bind, run_build w t _ cells h', Result.andThen_ok, Sem.run_pure]
theorem ex_bin {op : BinOp} {t : TypeId} {x y : Operand} {yt : TypeId} (h : (binOp op t u v).run P w = .ok r w) (ho : o.op = .binOp op t x y yt) (hx : a.eval x = u) (hy : a.eval y = v) (hg : (eqGuard op t x y u v).run P w = .ok () w) : (execOp a.eval o).run P w = .ok (.value r) w := by
  unfold execOp
  simp only [ho, hx, hy, Sem.run_bind, hg, Result.andThen_ok, h, Sem.run_pure]
theorem ex_store {ty : TypeId} {x y : Operand} {ad : Addr} (h : (storeVar ty ad v).run P w = .ok () w1) (ho : o.op = .store ty x y) (hx : a.eval x = .pointer (some ad)) (hy : a.eval y = v) : (execOp a.eval o).run P w = .ok .skip w1 := by
  unfold execOp
  simp only [ho, hx, hy, Instr.storeAt, Instr.sureAddr, Sem.run_bind, Sem.run_pure, Result.andThen_ok, h]
end
theorem noGuard63 : Tryd.prog.eqGuardType Tryd.prog.depth 63 = false := by kernel_rfl
theorem noGuard66 : Tryd.prog.eqGuardType Tryd.prog.depth 66 = false := by kernel_rfl
theorem noGuard71 : Tryd.prog.eqGuardType Tryd.prog.depth 71 = false := by kernel_rfl
theorem Rec.size66 {r : Rec} (h : r.v.length = 32) : (Tryd.prog.info? 66).map (·.size) = some r.cells.size := by rw [Rec.size h]; kernel_rfl
theorem Rec.size71 {r : Rec} (h : r.v.length = 32) : (Tryd.prog.info? 71).map (·.size) = some r.cells.size := by rw [Rec.size h]; kernel_rfl
theorem Rec.allOne (r : Rec) : r.cells.all (·.oneCell') = true := Array.all_eq_true_iff_forall_mem.2 r.one
theorem At.store66 {w : World} {g : Nat} {r s : Rec} (h : At 66 w g r) (hr : r.v.length = 32) (hs : s.v.length = 32) : (storeVar 66 ⟨g, 0, none⟩ (.agg s.cells)).run Tryd.prog w = .ok () (w.setRow g s.cells) :=
  run_storeVar_row w g 66 66 r.cells s.cells h (Rec.size66 hs) ((Rec.size hr).trans (Rec.size hs).symm) s.allOne
theorem At.store71 {w : World} {g : Nat} {r s : Rec} (h : At 71 w g r) (hr : r.v.length = 32) (hs : s.v.length = 32) : (storeVar 71 ⟨g, 0, none⟩ (.agg s.cells)).run Tryd.prog w = .ok () (w.setRow g s.cells) :=
  run_storeVar_row w g 71 71 r.cells s.cells h (Rec.size71 hs) ((Rec.size hr).trans (Rec.size hs).symm) s.allOne
theorem At.set {t : TypeId} {w : World} {g : Nat} {r s : Rec} (h : At t w g r) : At t (w.setRow g s.cells) g s := setRow_heap w g _ _ t _ h
theorem At.set_other {t : TypeId} {w : World} {g g' : Nat} {r : Rec} {cs : Array Value} (h : At t w g r) (hne : g ≠ g') : At t (w.setRow g' cs) g r := (setRow_other w g' g cs hne).trans h
theorem At.zero66 (w : World) : At 66 (w.alloc (.cells Rec.zero.cells 66)) w.heap.size Rec.zero := At.new 66 w _
end Go.Proofs.YtblfmofhfbbmdaaDoor
