/- A superblock that may be, made of any one. -/
import Derived.Test.YtblfmofhfbbmdaaDoorSup1
set_option linter.unusedVariables false
set_option linter.unusedSimpArgs false
namespace Go.Proofs.YtblfmofhfbbmdaaDoor
open Go.RowKit Crc

def restF (n m : Int) : Int := 1 + (n.tmod m + m).tmod m
theorem restF_range (n m : Int) (hm : 1 ≤ m) : 1 ≤ restF n m ∧ restF n m ≤ m := by
  have h1 := Int.tmod_lt_of_pos n (b := m) (by omega)
  have h2 : -m < n.tmod m := Int.lt_tmod_of_pos n (by omega)
  unfold restF
  have h3 := Int.tmod_lt_of_pos (n.tmod m + m) (b := m) (by omega)
  have h5 := Int.tmod_nonneg (b := m) (a := n.tmod m + m) (by omega)
  omega
set_option maxRecDepth 100000 in
theorem rest_any (n m : Int) (w : World) (hm : 1 ≤ m ∧ m ≤ 64) : Calls Tryd.prog 63 #[.int .i64 n, .int .i64 m] w fun x w' => x = .returned (.int .i64 (restF n m)) ∧ w = w' := by
  have h1 := Int.tmod_lt_of_pos n (b := m) (by omega)
  have h2 : -m < n.tmod m := Int.lt_tmod_of_pos n (by omega)
  have e1 : wrap64 (n.tmod m + m) = n.tmod m + m := by unfold wrap64; omega
  have h3 := Int.tmod_lt_of_pos (n.tmod m + m) (b := m) (by omega)
  have h5 := Int.tmod_nonneg (b := m) (a := n.tmod m + m) (by omega)
  have e2 : wrap64 (1 + (n.tmod m + m).tmod m) = 1 + (n.tmod m + m).tmod m := by unfold wrap64; omega
  have e3 : wrap64 (n.tmod m) = n.tmod m := by unfold wrap64; omega
  have e4 : wrap64 ((n.tmod m + m).tmod m) = (n.tmod m + m).tmod m := by unfold wrap64; omega
  have hr : restF n m = 1 + (n.tmod m + m).tmod m := rfl
  rw [hr]
  clear hr h1 h2 h3 h5
  have hz : m ≠ 0 := by omega
  go_enter Tryd.func63, Tryd.ntmps63
  go_wp2
  go_ret
  exact ⟨by first | rfl | (rw [e1, e2]; rfl), rfl⟩
theorem rest_eq (n m m' : Int) (w : World) (hm : 1 ≤ m ∧ m ≤ 64) (h : m = m') : Calls Tryd.prog 63 #[.int .i64 n, .int .i64 m] w fun x w' => x = .returned (.int .i64 (restF n m')) ∧ w = w' := h ▸ rest_any n m w hm

def mayS (s : Sup) : Sup :=
  ⟨restF s.b 64, 1 + restF s.l 63, restF s.m (min (min 16 (restF s.b 64)) (1 + restF s.l 63 - 1)), restF s.h (1 + restF s.l 63), restF s.c 8, s.t % 4611686018427387905, 1 + s.f % 4611686018427387904⟩
theorem mayS_cfg (s : Sup) : CfgOk (mayS s) := by
  have h1 := restF_range s.b 64 (by omega)
  have h2 := restF_range s.l 63 (by omega)
  have h3 := restF_range s.m (min (min 16 (restF s.b 64)) (1 + restF s.l 63 - 1)) (by omega)
  have h4 := restF_range s.h (1 + restF s.l 63) (by omega)
  have h5 := restF_range s.c 8 (by omega)
  unfold CfgOk mayS
  simp only []
  omega
theorem mayS_sup (s : Sup) : SupOk (mayS s) := ⟨mayS_cfg s, by show s.t % _ ≤ _; omega, by show 1 ≤ 1 + s.f % _; omega, by show 1 + s.f % _ ≤ _; omega⟩
theorem SupOk.okay {s : Sup} (h : SupOk s) (ht : 0 ≤ s.t) : s.ok := by
  obtain ⟨⟨a, b, c, d, e⟩, f, g, k⟩ := h
  constructor <;> constructor <;> omega
theorem mayS_ok (s : Sup) : (mayS s).ok := (mayS_sup s).okay (by show 0 ≤ s.t % _; omega)
theorem heap_mid (w : World) (A B C : Obj) : (((w.alloc A).alloc B).alloc C).heap[w.heap.size + 1]? = some B := by
  have h := heap_new2 w A B
  have hlt : w.heap.size + 1 < ((w.alloc A).alloc B).heap.size := by simp [World.size_alloc]
  exact ((below_alloc (Below.refl _ ((w.alloc A).alloc B)) C).block _ hlt).trans h
set_option maxRecDepth 100000 in
set_option maxHeartbeats 4000000 in
theorem may_any (s : Sup) (w : World) (hs : s.ok) : Calls Tryd.prog 33 #[.agg s.cells] w fun x w' => x = .returned (.agg (mayS s).cells) ∧ Below w.heap.size w w' := by
  obtain ⟨hob, hol, hom, hoh, hoc, hot, hof⟩ := hs
  obtain ⟨b, l, m, hi, c, t, f⟩ := s
  simp only [i64ok, u64ok] at hob hol hom hoh hoc hot hof
  have h1 := restF_range b 64 (by omega)
  have h2 := restF_range l 63 (by omega)
  have hcells : (mayS ⟨b, l, m, hi, c, t, f⟩).cells = #[.int .i64 (restF b 64), .int .i64 (1 + restF l 63), .int .i64 (restF m (min (min 16 (restF b 64)) (1 + restF l 63 - 1))), .int .i64 (restF hi (1 + restF l 63)), .int .i64 (restF c 8), .int .u64 (t % 4611686018427387905), .int .u64 (1 + f % 4611686018427387904)] := rfl
  rw [hcells]
  clear hcells
  obtain ⟨B, hB⟩ : ∃ B, restF b 64 = B := ⟨_, rfl⟩
  obtain ⟨R, hR⟩ : ∃ R, restF l 63 = R := ⟨_, rfl⟩
  rw [hB] at h1 ⊢
  rw [hR] at h2 ⊢
  obtain ⟨M, hM⟩ : ∃ M, restF m (min (min 16 B) (1 + R - 1)) = M := ⟨_, rfl⟩
  obtain ⟨X, hX⟩ : ∃ X, restF hi (1 + R) = X := ⟨_, rfl⟩
  obtain ⟨C, hC⟩ : ∃ C, restF c 8 = C := ⟨_, rfl⟩
  rw [hM, hX, hC]
  have HB := Lib.hid hB
  have HR := Lib.hid hR
  have HM := Lib.hid hM
  have HX := Lib.hid hX
  have HC := Lib.hid hC
  have e3 : IntKind.u64.wrap (1 + f % 4611686018427387904) = 1 + f % 4611686018427387904 := by rw [wrap_u64]; omega
  clear hB hR hM hX hC
  show Calls Tryd.prog 33 #[.agg #[.int .i64 b, .int .i64 l, .int .i64 m, .int .i64 hi, .int .i64 c, .int .u64 t, .int .u64 f]] w _
  go_enter Tryd.func33, Tryd.ntmps33
  go_wp2_with (first
    | (go_at_call 63; (with_reducible refine (rest_any b 64 _ (by omega)).mono ?_); rw [HB.out]; rintro e w' ⟨rfl, rfl⟩)
    | (go_at_call 63; (with_reducible refine (rest_any l 63 _ (by omega)).mono ?_); rw [HR.out]; rintro e w' ⟨rfl, rfl⟩)
    | (go_at_call 63; (with_reducible refine (rest_any c 8 _ (by omega)).mono ?_); rw [HC.out]; rintro e w' ⟨rfl, rfl⟩)
    | (go_at_call 63; (with_reducible refine (rest_any hi (1 + R) _ (by omega)).mono ?_); rw [HX.out]; rintro e w' ⟨rfl, rfl⟩)
    | (go_at_call 63; (with_reducible refine (rest_eq m _ (min (min 16 B) (1 + R - 1)) _ (by omega) (by omega)).mono ?_); rw [HM.out]; rintro e w' ⟨rfl, rfl⟩))
  all_goals
    exact bodyPost_ret_by (results_cell_row (p := 2) (ty := 54) (by kernel_rfl) _ _ (w.heap.size + 1) 54 _ (0, 0) _ rfl (heap_mid w _ _ _) Tryd.underlying54 rfl (by kernel_rfl)) rfl ⟨rfl, below_alloc (below_alloc (below_alloc (Below.refl _ _) _) _) _⟩
end Go.Proofs.YtblfmofhfbbmdaaDoor
