/- Records made and handed on: Own, Plain, number, bytes.Equal. -/
import Derived.Test.YtblfmofhfbbmdaaDoorSteps
import Derived.Test.YtblfmofhfbbmdaaDoorPad
import Derived.Test.YtblfmofhfbbmdaaDoorFixed
set_option linter.unusedVariables false
set_option linter.unusedSimpArgs false
namespace Go.Proofs.YtblfmofhfbbmdaaDoor
open Go.RowKit

theorem number81_any (n s : Int) (w : World) (hn : 0 ≤ n ∧ n < 18446744073709551616) (hs : -9223372036854775808 ≤ s ∧ s ≤ 9223372036854775807) :
    Calls Tryd.prog 81 #[.int .u64 n, .int .i64 s] w fun e w' => ∃ v', e = .returned v' ∧ OB w' w.heap.size v' (putL n s) ∧ Below w.heap.size w w' := by
  go_enter Tryd.func81, Tryd.ntmps81
  go_wp2_with (go_at_call 61; refine (put_any n s _ hn hs).mono ?_; rintro e w' ⟨v', rfl, ho, hb⟩; have ho := Lib.hid ho; have hb := Lib.hid hb)
  go_ret
  exact ⟨_, rfl, ho.out, hb.out⟩

/-! ### Records built -/
theorem list32 (v : List Int) (h : v.length = 32) : ∃ v0 v1 v2 v3 v4 v5 v6 v7 v8 v9 v10 v11 v12 v13 v14 v15 v16 v17 v18 v19 v20 v21 v22 v23 v24 v25 v26 v27 v28 v29 v30 v31 : Int, v = [v0, v1, v2, v3, v4, v5, v6, v7, v8, v9, v10, v11, v12, v13, v14, v15, v16, v17, v18, v19, v20, v21, v22, v23, v24, v25, v26, v27, v28, v29, v30, v31] := by
  match v, h with
  | [v0, v1, v2, v3, v4, v5, v6, v7, v8, v9, v10, v11, v12, v13, v14, v15, v16, v17, v18, v19, v20, v21, v22, v23, v24, v25, v26, v27, v28, v29, v30, v31], _ => exact ⟨v0, v1, v2, v3, v4, v5, v6, v7, v8, v9, v10, v11, v12, v13, v14, v15, v16, v17, v18, v19, v20, v21, v22, v23, v24, v25, v26, v27, v28, v29, v30, v31, rfl⟩
theorem b66_full (k p b i : Int) (v : List Int) (h : v.length = 32) : Tryd.prog.built 66 [(0, .int .i64 k), (1, .int .u64 p), (2, .int .i64 b), (3, .agg (bytes v).toArray), (4, .int .i64 i)] = some (Rec.mk k p b v i).cells := by
  obtain ⟨v0, v1, v2, v3, v4, v5, v6, v7, v8, v9, v10, v11, v12, v13, v14, v15, v16, v17, v18, v19, v20, v21, v22, v23, v24, v25, v26, v27, v28, v29, v30, v31, rfl⟩ := list32 v h
  kernel_rfl
theorem b71_full (k p b i : Int) (v : List Int) (h : v.length = 32) : Tryd.prog.built 71 [(0, .int .i64 k), (1, .int .u64 p), (2, .int .i64 b), (3, .agg (bytes v).toArray), (4, .int .i64 i)] = some (Rec.mk k p b v i).cells := by
  obtain ⟨v0, v1, v2, v3, v4, v5, v6, v7, v8, v9, v10, v11, v12, v13, v14, v15, v16, v17, v18, v19, v20, v21, v22, v23, v24, v25, v26, v27, v28, v29, v30, v31, rfl⟩ := list32 v h
  kernel_rfl
theorem b66_image (k p b : Int) (v : List Int) (h : v.length = 32) : Tryd.prog.built 66 [(0, .int .i64 k), (1, .int .u64 p), (2, .int .i64 b), (3, .agg (bytes v).toArray)] = some (Rec.mk k p b v 0).cells := by
  obtain ⟨v0, v1, v2, v3, v4, v5, v6, v7, v8, v9, v10, v11, v12, v13, v14, v15, v16, v17, v18, v19, v20, v21, v22, v23, v24, v25, v26, v27, v28, v29, v30, v31, rfl⟩ := list32 v h
  kernel_rfl
theorem b66_commit (k p i : Int) : Tryd.prog.built 66 [(0, .int .i64 k), (1, .int .u64 p), (4, .int .i64 i)] = some (Rec.mk k p 0 zero32 i).cells := by
  kernel_rfl
theorem b66_kp (k p : Int) : Tryd.prog.built 66 [(0, .int .i64 k), (1, .int .u64 p)] = some (Rec.mk k p 0 zero32 0).cells := by
  kernel_rfl
theorem b71_kp (k p : Int) : Tryd.prog.built 71 [(0, .int .i64 k), (1, .int .u64 p)] = some (Rec.mk k p 0 zero32 0).cells := by
  kernel_rfl
theorem b66_rec (r : Rec) (h : r.v.length = 32) : Tryd.prog.built 66 [(0, .int .i64 r.k), (1, .int .u64 r.p), (2, .int .i64 r.b), (3, .agg (bytes r.v).toArray), (4, .int .i64 r.i)] = some r.cells := b66_full _ _ _ _ _ h
theorem b71_rec (r : Rec) (h : r.v.length = 32) : Tryd.prog.built 71 [(0, .int .i64 r.k), (1, .int .u64 r.p), (2, .int .i64 r.b), (3, .agg (bytes r.v).toArray), (4, .int .i64 r.i)] = some r.cells := b71_full _ _ _ _ _ h
theorem b66_none : Tryd.prog.built 66 [] = some Rec.zero.cells := by kernel_rfl
theorem b71_none : Tryd.prog.built 71 [] = some Rec.zero.cells := by kernel_rfl
theorem run_alloc66 (w : World) : (Instr.alloc 66 true (.tuple #[])).run Tryd.prog w = .ok (.pointer (some ⟨w.heap.size, 0, none⟩)) (w.alloc (.cells Rec.zero.cells 66)) := by kernel_rfl
theorem run_alloc71 (w : World) : (Instr.alloc 71 true (.tuple #[])).run Tryd.prog w = .ok (.pointer (some ⟨w.heap.size, 0, none⟩)) (w.alloc (.cells Rec.zero.cells 71)) := by kernel_rfl
theorem ex_alloc {P : Program} {o : Oper} {a : Act} {w w1 : World} {v : Value} {t : TypeId} (h : (Instr.alloc t true (.tuple #[])).run P w = .ok v w1) (ho : o.op = .alloc t) : (execOp a.eval o).run P w = .ok (.value v) w1 := by
  unfold execOp
  simp only [ho, Sem.run_bind, h, Result.andThen_ok, Sem.run_pure]
theorem zero_n : Rec.zero.v.length = 32 := rfl

set_option maxRecDepth 100000 in
theorem own_rec (r : Rec) (w : World) (hr : r.ok) : Calls Tryd.prog 40 #[.agg r.cells] w fun e w' => e = .returned (.agg r.cells) ∧ Below w.heap.size w w' := by
  have g0 := r.get0
  have g1 := r.get1
  have g2 := r.get2
  have g3 := r.geti hr.n
  have Ha := Lib.hid ((At.new 71 w r).below (below_alloc (Below.refl _ _) (.cells Rec.zero.cells 66)))
  have hz := At.new 66 (w.alloc (.cells r.cells 71)) Rec.zero
  rw [World.size_alloc] at hz
  have Hz := Lib.hid hz
  clear hz
  go_enter Tryd.func40, Tryd.ntmps40
  go_wp2_with (first
    | (refine go_value (o := ⟨some 2, _, _, _, _, _⟩) (by rfl) (ex_alloc (run_alloc66 _) rfl) ?_)
    | (refine go_value (o := ⟨some 10, _, _, _, _, _⟩) (by rfl) (ex_load (Ha.out.val hr.n) rfl rfl) ?_)
    | (refine go_value (o := ⟨some 13, _, _, _, _, _⟩) (by rfl) (ex_build (b66_rec r hr.n) rfl rfl) ?_)
    | (refine go_skip (o := ⟨none, .store 66 _ _, _, _, _, _⟩) (by rfl) (ex_store (Hz.out.store66 zero_n hr.n) rfl rfl rfl) ?_))
  refine bodyPost_ret_by (results_cell_row (p := 2) (ty := 66) (by kernel_rfl) _ _ (w.heap.size + 1) 66 r.cells (0, 0) _ rfl (Hz.out.set (s := r)) Tryd.underlying66 rfl (Rec.size66 hr.n)) rfl ⟨rfl, Below.setRow' (below_alloc (below_alloc (Below.refl _ _) _) _) (by simp) _⟩
set_option maxRecDepth 100000 in
theorem plain_rec (r : Rec) (w : World) (hr : r.ok) : Calls Tryd.prog 45 #[.agg r.cells] w fun e w' => e = .returned (.agg r.cells) ∧ Below w.heap.size w w' := by
  have g0 := r.get0
  have g1 := r.get1
  have g2 := r.get2
  have g3 := r.geti hr.n
  have Ha := Lib.hid ((At.new 66 w r).below (below_alloc (Below.refl _ _) (.cells Rec.zero.cells 71)))
  have hz := At.new 71 (w.alloc (.cells r.cells 66)) Rec.zero
  rw [World.size_alloc] at hz
  have Hz := Lib.hid hz
  clear hz
  go_enter Tryd.func45, Tryd.ntmps45
  go_wp2_with (first
    | (refine go_value (o := ⟨some 2, _, _, _, _, _⟩) (by rfl) (ex_alloc (run_alloc71 _) rfl) ?_)
    | (refine go_value (o := ⟨some 10, _, _, _, _, _⟩) (by rfl) (ex_load (Ha.out.val hr.n) rfl rfl) ?_)
    | (refine go_value (o := ⟨some 13, _, _, _, _, _⟩) (by rfl) (ex_build (b71_rec r hr.n) rfl rfl) ?_)
    | (refine go_skip (o := ⟨none, .store 71 _ _, _, _, _, _⟩) (by rfl) (ex_store (Hz.out.store71 zero_n hr.n) rfl rfl rfl) ?_))
  refine bodyPost_ret_by (results_cell_row (p := 2) (ty := 71) (by kernel_rfl) _ _ (w.heap.size + 1) 71 r.cells (0, 0) _ rfl (Hz.out.set (s := r)) Tryd.underlying71 rfl (Rec.size71 hr.n)) rfl ⟨rfl, Below.setRow' (below_alloc (below_alloc (Below.refl _ _) _) _) (by simp) _⟩
end Go.Proofs.YtblfmofhfbbmdaaDoor
