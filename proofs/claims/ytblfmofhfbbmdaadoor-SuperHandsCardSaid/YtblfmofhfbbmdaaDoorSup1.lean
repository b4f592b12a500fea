/- Superblocks in memory, and compared. -/
import Derived.Test.YtblfmofhfbbmdaaDoorSup0
set_option linter.unusedVariables false
set_option linter.unusedSimpArgs false
namespace Go.Proofs.YtblfmofhfbbmdaaDoor
open Go.RowKit Crc

def SAt (t : TypeId) (w : World) (g : Nat) (s : Sup) : Prop := w.heap[g]? = some (.cells s.cells t (0, 0))
theorem SAt.below {t : TypeId} {w w' : World} {g : Nat} {s : Sup} (h : SAt t w g s) (hb : Below w.heap.size w w') : SAt t w' g s := (hb.block g (Array.getElem?_eq_some_iff.1 h).1).trans h
theorem SAt.lt {t : TypeId} {w : World} {g : Nat} {s : Sup} (h : SAt t w g s) : g < w.heap.size := (Array.getElem?_eq_some_iff.1 h).1
theorem SAt.new (t : TypeId) (w : World) (s : Sup) : SAt t (w.alloc (.cells s.cells t)) w.heap.size s := heap_alloc_new w _
theorem SAt.set {t : TypeId} {w : World} {g : Nat} {r s : Sup} (h : SAt t w g r) : SAt t (w.setRow g s.cells) g s := setRow_heap w g _ _ t _ h
theorem SAt.set_other {t : TypeId} {w : World} {g g' : Nat} {r : Sup} {cs : Array Value} (h : SAt t w g r) (hne : g ≠ g') : SAt t (w.setRow g' cs) g r := (setRow_other w g' g cs hne).trans h
theorem SAt.t {ty : TypeId} {w : World} {g : Nat} {s : Sup} (h : SAt ty w g s) : w.cell? ⟨g, 5, none⟩ = some (.int .u64 s.t) := (cell_of_row w g 5 _ _ _ h).trans (by simp [Sup.cells])
theorem SAt.f {ty : TypeId} {w : World} {g : Nat} {s : Sup} (h : SAt ty w g s) : w.cell? ⟨g, 6, none⟩ = some (.int .u64 s.f) := (cell_of_row w g 6 _ _ _ h).trans (by simp [Sup.cells])
theorem SAt.load51 {w : World} {g : Nat} {s : Sup} (h : SAt 51 w g s) : (loadVar 51 ⟨g, 0, none⟩).run Tryd.prog w = .ok (.agg s.cells) w :=
  run_loadVar_row w g 51 51 s.cells (0, 0) _ h Tryd.underlying51 rfl (show _ = some 7 by kernel_rfl)
theorem SAt.load54 {w : World} {g : Nat} {s : Sup} (h : SAt 54 w g s) : (loadVar 54 ⟨g, 0, none⟩).run Tryd.prog w = .ok (.agg s.cells) w :=
  run_loadVar_row w g 54 54 s.cells (0, 0) _ h Tryd.underlying54 rfl (show _ = some 7 by kernel_rfl)
theorem Sup.allOne (s : Sup) : s.cells.all (·.oneCell') = true := by simp [Sup.cells, Value.oneCell']
theorem SAt.store51 {w : World} {g : Nat} {r s : Sup} (h : SAt 51 w g r) : (storeVar 51 ⟨g, 0, none⟩ (.agg s.cells)).run Tryd.prog w = .ok () (w.setRow g s.cells) :=
  run_storeVar_row w g 51 51 r.cells s.cells h (show _ = some 7 by kernel_rfl) rfl s.allOne
theorem SAt.store54 {w : World} {g : Nat} {r s : Sup} (h : SAt 54 w g r) : (storeVar 54 ⟨g, 0, none⟩ (.agg s.cells)).run Tryd.prog w = .ok () (w.setRow g s.cells) :=
  run_storeVar_row w g 54 54 r.cells s.cells h (show _ = some 7 by kernel_rfl) rfl s.allOne
theorem size48 (w : World) : (sizeOf 48).run Tryd.prog w = .ok 5 w := by kernel_rfl
theorem SAt.cfg {t : TypeId} {w : World} {g : Nat} {s : Sup} (h : SAt t w g s) : (loadVar 48 ⟨g, 0, none⟩).run Tryd.prog w = .ok (.agg s.cfg) w := by
  have hl' : (loadCells ⟨g, 0, none⟩ s.cfg.toList.length).run Tryd.prog w = .ok s.cfg.toList.toArray w :=
    run_loadCells_list (P := Tryd.prog) w ⟨g, 0, none⟩ s.cfg.toList (fun j v hv => by
      have hadd : (⟨g, 0, none⟩ : Addr).add j = ⟨g, j, none⟩ := by unfold Addr.add; split <;> simp_all
      rw [hadd, cell_of_row w g j _ _ _ h]
      have hj : j < 5 := (List.getElem?_eq_some_iff.1 hv).1
      simp only [Sup.cfg, Sup.cells] at hv ⊢
      match j, hj with
      | 0, _ => exact hv
      | 1, _ => exact hv
      | 2, _ => exact hv
      | 3, _ => exact hv
      | 4, _ => exact hv)
  simp only [Array.toArray_toList] at hl'
  rw [show s.cfg.toList.length = 5 from rfl] at hl'
  simp [loadVar, isAgg, run_underlying Tryd.underlying48, size48, hl']
theorem run_alloc51 (w : World) : (Instr.alloc 51 true (.tuple #[])).run Tryd.prog w = .ok (.pointer (some ⟨w.heap.size, 0, none⟩)) (w.alloc (.cells Sup.zero.cells 51)) := by kernel_rfl
theorem run_alloc54 (w : World) : (Instr.alloc 54 true (.tuple #[])).run Tryd.prog w = .ok (.pointer (some ⟨w.heap.size, 0, none⟩)) (w.alloc (.cells Sup.zero.cells 54)) := by kernel_rfl
theorem b54_none : Tryd.prog.built 54 [] = some Sup.zero.cells := by kernel_rfl
theorem b51_none : Tryd.prog.built 51 [] = some Sup.zero.cells := by kernel_rfl
theorem noGuard51 : Tryd.prog.eqGuardType Tryd.prog.depth 51 = false := by kernel_rfl
theorem noGuard54 : Tryd.prog.eqGuardType Tryd.prog.depth 54 = false := by kernel_rfl
theorem ex_alloc' {P : Program} {o : Oper} {a : Act} {w w1 : World} {v : Value} {t : TypeId} (h : (Instr.alloc t true (.tuple #[])).run P w = .ok v w1) (ho : o.op = .alloc t) : (execOp a.eval o).run P w = .ok (.value v) w1 := by
  unfold execOp
  simp only [ho, Sem.run_bind, h, Result.andThen_ok, Sem.run_pure]

/-! ### Comparisons -/
def cfgEq (r s : Sup) : Bool := (r.b == s.b) && ((r.l == s.l) && ((r.m == s.m) && ((r.h == s.h) && (r.c == s.c))))
def supEq (r s : Sup) : Bool := cfgEq r s && ((r.t == s.t) && (r.f == s.f))
theorem supEq_iff (r s : Sup) : supEq r s = true ↔ r = s := by
  obtain ⟨a, b, c, d, e, f, g⟩ := r
  obtain ⟨a', b', c', d', e', f', g'⟩ := s
  simp [supEq, cfgEq, and_assoc]
theorem supEq_self (r : Sup) : supEq r r = true := (supEq_iff r r).2 rfl
theorem part48 (r : Sup) (w : World) : (part 48 r.cells 0).run Tryd.prog w = .ok (.agg r.cfg) w := by
  have he : r.cells.extract 0 5 = r.cfg := by simp [Sup.cells, Sup.cfg]
  simp [part, isAgg, run_underlying Tryd.underlying48, size48, he]
theorem eqCfg {fs : Array Field} (hu : Tryd.prog.underlying 48 = some (.struct fs)) (hp : Tryd.prog.stoodInHeld 48 = false) (hf : fs.toList.map (fun f => (f.name == "_", f.type, f.offset)) = [(false, 3, 0), (false, 3, 1), (false, 3, 2), (false, 3, 3), (false, 3, 4)])
    (r s : Sup) (w : World) (d : Nat) : (Op.equalIn (d + 2) 48 (.agg r.cfg) (.agg s.cfg)).run Tryd.prog w = .ok (cfgEq r s) w := by
  refine eqA_of' hu hp ?_
  generalize fs.toList = l at hf
  have hlen : l.length = 5 := by simpa using congrArg List.length hf
  match l, hlen with
  | [f0, f1, f2, f3, f4], _ =>
    simp only [List.map_cons, List.map_nil, List.cons.injEq, Prod.mk.injEq, and_true] at hf
    obtain ⟨⟨n0, t0, o0⟩, ⟨n1, t1, o1⟩, ⟨n2, t2, o2⟩, ⟨n3, t3, o3⟩, ⟨n4, t4, o4⟩⟩ := hf
    refine eqf_cons' n0 (a := .int .i64 r.b) (b := .int .i64 s.b) (by rw [t0, o0]; exact part_int Tryd.underlying3 rfl w) (by rw [t0, o0]; exact part_int Tryd.underlying3 rfl w) (by rw [t0]; exact run_equalIn_int w d 3 .i64 .i64 _ _ Tryd.underlying3) ?_
    refine eqf_cons' n1 (a := .int .i64 r.l) (b := .int .i64 s.l) (by rw [t1, o1]; exact part_int Tryd.underlying3 rfl w) (by rw [t1, o1]; exact part_int Tryd.underlying3 rfl w) (by rw [t1]; exact run_equalIn_int w d 3 .i64 .i64 _ _ Tryd.underlying3) ?_
    refine eqf_cons' n2 (a := .int .i64 r.m) (b := .int .i64 s.m) (by rw [t2, o2]; exact part_int Tryd.underlying3 rfl w) (by rw [t2, o2]; exact part_int Tryd.underlying3 rfl w) (by rw [t2]; exact run_equalIn_int w d 3 .i64 .i64 _ _ Tryd.underlying3) ?_
    refine eqf_cons' n3 (a := .int .i64 r.h) (b := .int .i64 s.h) (by rw [t3, o3]; exact part_int Tryd.underlying3 rfl w) (by rw [t3, o3]; exact part_int Tryd.underlying3 rfl w) (by rw [t3]; exact run_equalIn_int w d 3 .i64 .i64 _ _ Tryd.underlying3) ?_
    exact eqf_last' n4 (a := .int .i64 r.c) (b := .int .i64 s.c) (by rw [t4, o4]; exact part_int Tryd.underlying3 rfl w) (by rw [t4, o4]; exact part_int Tryd.underlying3 rfl w) (by rw [t4]; exact run_equalIn_int w d 3 .i64 .i64 _ _ Tryd.underlying3)
theorem eqSup {t : TypeId} {fs : Array Field} (hu : Tryd.prog.underlying t = some (.struct fs)) (hp : Tryd.prog.stoodInHeld t = false) (hf : fs.toList.map (fun f => (f.name == "_", f.type, f.offset)) = [(false, 48, 0), (false, 49, 5), (false, 49, 6)])
    (r s : Sup) (w : World) : (Op.equalIn 10000 t (.agg r.cells) (.agg s.cells)).run Tryd.prog w = .ok (supEq r s) w := by
  refine eqA_of' hu hp ?_
  generalize fs.toList = l at hf
  have hlen : l.length = 3 := by simpa using congrArg List.length hf
  match l, hlen with
  | [f0, f1, f2], _ =>
    simp only [List.map_cons, List.map_nil, List.cons.injEq, Prod.mk.injEq, and_true] at hf
    obtain ⟨⟨n0, t0, o0⟩, ⟨n1, t1, o1⟩, ⟨n2, t2, o2⟩⟩ := hf
    refine eqf_cons' n0 (a := .agg r.cfg) (b := .agg s.cfg) (by rw [t0, o0]; exact part48 r w) (by rw [t0, o0]; exact part48 s w) (by rw [t0]; exact eqCfg Tryd.underlying48 (by kernel_rfl) (by kernel_rfl) r s w 9997) ?_
    refine eqf_cons' n1 (a := .int .u64 r.t) (b := .int .u64 s.t) (by rw [t1, o1]; exact part_int Tryd.underlying49 rfl w) (by rw [t1, o1]; exact part_int Tryd.underlying49 rfl w) (by rw [t1]; exact run_equalIn_int w 9998 49 .u64 .u64 _ _ Tryd.underlying49) ?_
    exact eqf_last' n2 (a := .int .u64 r.f) (b := .int .u64 s.f) (by rw [t2, o2]; exact part_int Tryd.underlying49 rfl w) (by rw [t2, o2]; exact part_int Tryd.underlying49 rfl w) (by rw [t2]; exact run_equalIn_int w 9998 49 .u64 .u64 _ _ Tryd.underlying49)
theorem eqS54 (r s : Sup) (w : World) : (Op.equalIn 10000 54 (.agg r.cells) (.agg s.cells)).run Tryd.prog w = .ok (supEq r s) w := eqSup Tryd.underlying54 (by kernel_rfl) (by kernel_rfl) r s w
theorem eqS51 (r s : Sup) (w : World) : (Op.equalIn 10000 51 (.agg r.cells) (.agg s.cells)).run Tryd.prog w = .ok (supEq r s) w := eqSup Tryd.underlying51 (by kernel_rfl) (by kernel_rfl) r s w
theorem eql54 (r s : Sup) (w : World) : (binOp .eql 54 (.agg r.cells) (.agg s.cells)).run Tryd.prog w = .ok (.bool (supEq r s)) w := by rw [run_eql_struct, eqS54 r s w]; rfl
theorem neq54 (r s : Sup) (w : World) : (binOp .neq 54 (.agg r.cells) (.agg s.cells)).run Tryd.prog w = .ok (.bool (!supEq r s)) w := by rw [run_neq_struct, eqS54 r s w]; rfl
theorem eql51 (r s : Sup) (w : World) : (binOp .eql 51 (.agg r.cells) (.agg s.cells)).run Tryd.prog w = .ok (.bool (supEq r s)) w := by rw [run_eql_struct, eqS51 r s w]; rfl
end Go.Proofs.YtblfmofhfbbmdaaDoor
