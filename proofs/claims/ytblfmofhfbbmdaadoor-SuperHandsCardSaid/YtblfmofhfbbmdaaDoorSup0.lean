/- A superblock, and the small functions of it. -/
import Derived.Test.YtblfmofhfbbmdaaDoorPad
import Derived.Test.YtblfmofhfbbmdaaDoorSteps
import Derived.Test.YtblfmofhfbbmdaaDoorStr
import Derived.BigRegion
set_option linter.unusedVariables false
set_option linter.unusedSimpArgs false
namespace Go.Proofs.YtblfmofhfbbmdaaDoor
open Go.RowKit Crc

/-- A superblock: the configuration's five, Tail, Life. -/
structure Sup where
  b : Int
  l : Int
  m : Int
  h : Int
  c : Int
  t : Int
  f : Int
deriving DecidableEq
def Sup.cells (s : Sup) : Array Value := #[.int .i64 s.b, .int .i64 s.l, .int .i64 s.m, .int .i64 s.h, .int .i64 s.c, .int .u64 s.t, .int .u64 s.f]
def Sup.cfg (s : Sup) : Array Value := #[.int .i64 s.b, .int .i64 s.l, .int .i64 s.m, .int .i64 s.h, .int .i64 s.c]
def i64ok (x : Int) : Prop := -9223372036854775808 ≤ x ∧ x ≤ 9223372036854775807
def u64ok (x : Int) : Prop := 0 ≤ x ∧ x < 18446744073709551616
structure Sup.ok (s : Sup) : Prop where
  b : i64ok s.b
  l : i64ok s.l
  m : i64ok s.m
  h : i64ok s.h
  c : i64ok s.c
  t : u64ok s.t
  f : u64ok s.f
def Sup.zero : Sup := ⟨0, 0, 0, 0, 0, 0, 0⟩
def Sup.small : Sup := ⟨8, 16, 4, 12, 3, 0, 1⟩
theorem Sup.zero_ok : Sup.zero.ok := by constructor <;> (constructor <;> decide)
theorem Sup.small_ok : Sup.small.ok := by constructor <;> (constructor <;> decide)

set_option maxRecDepth 100000 in
theorem snum_any (e : Int) (w : World) : Calls Tryd.prog 34 #[.int .i64 e] w fun x w' => x = .returned (.int .i64 e) ∧ w = w' := by
  go_enter Tryd.func34, Tryd.ntmps34
  go_wp2
  go_ret
  exact ⟨rfl, rfl⟩
set_option maxRecDepth 100000 in
theorem within_any (n m : Int) (w : World) : Calls Tryd.prog 71 #[.int .i64 n, .int .i64 m] w fun x w' => x = .returned (.bool (decide (1 ≤ n) && decide (n ≤ m))) ∧ w = w' := by
  go_enter Tryd.func71, Tryd.ntmps71
  by_cases h1 : 1 ≤ n <;> by_cases h2 : n ≤ m
  all_goals
    go_wp2
    go_ret
    exact ⟨by simp [h1, h2], rfl⟩
theorem within_yes (n m : Int) (w : World) (h : 1 ≤ n ∧ n ≤ m) : Calls Tryd.prog 71 #[.int .i64 n, .int .i64 m] w fun x w' => x = .returned (.bool true) ∧ w = w' := by
  have e := within_any n m w
  rw [decide_eq_true h.1, decide_eq_true h.2] at e
  exact e
theorem within_no (n m : Int) (w : World) (h : ¬ (1 ≤ n ∧ n ≤ m)) : Calls Tryd.prog 71 #[.int .i64 n, .int .i64 m] w fun x w' => x = .returned (.bool false) ∧ w = w' := by
  have e := within_any n m w
  rw [show (decide (1 ≤ n) && decide (n ≤ m)) = false by rw [← Bool.decide_and]; exact decide_eq_false h] at e
  exact e
theorem heap_new2 (w : World) (A B : Obj) : ((w.alloc A).alloc B).heap[w.heap.size + 1]? = some B := by
  have h := heap_alloc_new (w.alloc A) B
  rwa [World.size_alloc] at h
set_option maxRecDepth 100000 in
theorem back_any (s : Sup) (w : World) : Calls Tryd.prog 48 #[.agg s.cells] w fun x w' => x = .returned (.agg s.cells) ∧ Below w.heap.size w w' := by
  obtain ⟨b, l, m, h, c, t, f⟩ := s
  show Calls Tryd.prog 48 #[.agg #[.int .i64 b, .int .i64 l, .int .i64 m, .int .i64 h, .int .i64 c, .int .u64 t, .int .u64 f]] w _
  go_enter Tryd.func48, Tryd.ntmps48
  go_wp2
  exact bodyPost_ret_by (results_cell_row (p := 2) (ty := 54) (by kernel_rfl) _ _ (w.heap.size + 1) 54 _ (0, 0) _ rfl (heap_new2 w _ _) Tryd.underlying54 rfl (by kernel_rfl)) rfl ⟨rfl, below_alloc (below_alloc (Below.refl _ _) _) _⟩
set_option maxRecDepth 100000 in
theorem plain_any (s : Sup) (w : World) : Calls Tryd.prog 53 #[.agg s.cells] w fun x w' => x = .returned (.agg s.cells) ∧ Below w.heap.size w w' := by
  obtain ⟨b, l, m, h, c, t, f⟩ := s
  show Calls Tryd.prog 53 #[.agg #[.int .i64 b, .int .i64 l, .int .i64 m, .int .i64 h, .int .i64 c, .int .u64 t, .int .u64 f]] w _
  go_enter Tryd.func53, Tryd.ntmps53
  go_wp2
  exact bodyPost_ret_by (results_cell_row (p := 2) (ty := 51) (by kernel_rfl) _ _ (w.heap.size + 1) 51 _ (0, 0) _ rfl (heap_new2 w _ _) Tryd.underlying51 rfl (by kernel_rfl)) rfl ⟨rfl, below_alloc (below_alloc (Below.refl _ _) _) _⟩
set_option maxRecDepth 100000 in
theorem small_any (w : World) : Calls Tryd.prog 60 #[] w fun x w' => x = .returned (.agg Sup.small.cells) ∧ Below w.heap.size w w' := by
  go_enter Tryd.func60, Tryd.ntmps60
  go_wp2
  exact bodyPost_ret_by (results_cell_row (p := 0) (ty := 51) (by kernel_rfl) _ _ w.heap.size 51 _ (0, 0) _ rfl (heap_alloc_new w _) Tryd.underlying51 rfl (by kernel_rfl)) rfl ⟨rfl, below_alloc (Below.refl _ _) _⟩

/-- A configuration that may be. -/
def CfgOk (s : Sup) : Prop := (1 ≤ s.b ∧ s.b ≤ 64) ∧ (2 ≤ s.l ∧ s.l ≤ 64) ∧ (1 ≤ s.m ∧ s.m ≤ 16 ∧ s.m ≤ s.b ∧ s.m ≤ s.l - 1) ∧ (1 ≤ s.h ∧ s.h ≤ s.l) ∧ (1 ≤ s.c ∧ s.c ≤ 8)
instance (s : Sup) : Decidable (CfgOk s) := by unfold CfgOk; infer_instance
def cfgE (s : Sup) : Int := if CfgOk s then 0 else 3
def SupOk (s : Sup) : Prop := CfgOk s ∧ s.t ≤ 4611686018427387904 ∧ 1 ≤ s.f ∧ s.f ≤ 4611686018427387904
instance (s : Sup) : Decidable (SupOk s) := by unfold SupOk; infer_instance
def supE (s : Sup) : Int := if CfgOk s then (if SupOk s then 0 else 70) else 3
theorem cfgE_ok {s : Sup} (h : CfgOk s) : cfgE s = 0 := if_pos h
theorem cfgE_no {s : Sup} (h : ¬ CfgOk s) : cfgE s = 3 := if_neg h
theorem sub1 (l : Int) (h : i64ok l) : wrap64 (l - 1) = if l = -9223372036854775808 then 9223372036854775807 else l - 1 := by
  unfold i64ok at h; unfold wrap64; split <;> omega
theorem cfg_case (s : Sup) : (CfgOk s ∧ cfgE s = 0) ∨ (¬ CfgOk s ∧ cfgE s = 3) := by
  by_cases hk : CfgOk s
  · exact Or.inl ⟨hk, cfgE_ok hk⟩
  · exact Or.inr ⟨hk, cfgE_no hk⟩

set_option maxRecDepth 100000 in
set_option maxHeartbeats 4000000 in
theorem config_any (s : Sup) (w : World) (hs : s.ok) : Calls Tryd.prog 50 #[.agg s.cfg] w fun x w' => x = .returned (.int .i64 (cfgE s)) ∧ Below w.heap.size w w' := by
  obtain ⟨hob, hol, hom, hoh, hoc, -, -⟩ := hs
  obtain ⟨b, l, m, hi, c, t, f⟩ := s
  show Calls Tryd.prog 50 #[.agg #[.int .i64 b, .int .i64 l, .int .i64 m, .int .i64 hi, .int .i64 c]] w _
  have h1 := sub1 l hol
  simp only [i64ok] at hob hol hom hoh hoc
  have hcase := cfg_case ⟨b, l, m, hi, c, t, f⟩
  generalize cfgE ⟨b, l, m, hi, c, t, f⟩ = ex at hcase
  simp only [CfgOk] at hcase
  rcases hcase with ⟨hk, rfl⟩ | ⟨hk, rfl⟩
  · rw [if_neg (by omega)] at h1
    go_enter Tryd.func50, Tryd.ntmps50
    go_wp2_with (go_at_call 71; refine (within_yes _ _ _ (by omega)).mono ?_; rintro e w' ⟨rfl, rfl⟩)
    all_goals
      go_ret
      exact ⟨rfl, below_alloc (Below.refl _ _) _⟩
  · by_cases hb : 1 ≤ b ∧ b ≤ 64
    · by_cases hl : 2 ≤ l ∧ l ≤ 64
      · rw [if_neg (by omega)] at h1
        by_cases hc : 1 ≤ c ∧ c ≤ 8
        · by_cases hm : 1 ≤ m ∧ m ≤ 16 ∧ m ≤ b ∧ m ≤ l - 1
          · have hh : ¬ (1 ≤ hi ∧ hi ≤ l) := by omega
            go_enter Tryd.func50, Tryd.ntmps50
            go_wp2_with (first
              | (go_at_call 71; refine (within_yes _ _ _ (by omega)).mono ?_; rintro e w' ⟨rfl, rfl⟩)
              | (go_at_call 71; refine (within_no _ _ _ (by omega)).mono ?_; rintro e w' ⟨rfl, rfl⟩))
            all_goals
              go_ret
              exact ⟨rfl, below_alloc (Below.refl _ _) _⟩
          · go_enter Tryd.func50, Tryd.ntmps50
            go_wp2_with (first
              | (go_at_call 71; refine (within_yes _ _ _ (by omega)).mono ?_; rintro e w' ⟨rfl, rfl⟩)
              | (go_at_call 71; refine (within_no _ _ _ (by omega)).mono ?_; rintro e w' ⟨rfl, rfl⟩))
            all_goals
              go_ret
              exact ⟨rfl, below_alloc (Below.refl _ _) _⟩
        · go_enter Tryd.func50, Tryd.ntmps50
          go_wp2_with (first
            | (go_at_call 71; refine (within_yes _ _ _ (by omega)).mono ?_; rintro e w' ⟨rfl, rfl⟩)
            | (go_at_call 71; refine (within_no _ _ _ (by omega)).mono ?_; rintro e w' ⟨rfl, rfl⟩))
          all_goals
            go_ret
            exact ⟨rfl, below_alloc (Below.refl _ _) _⟩
      · have hl0 : l = -9223372036854775808 ∨ l ≠ -9223372036854775808 := by omega
        rcases hl0 with hl0 | hl0
        · subst hl0
          have h2 : wrap64 (-9223372036854775809) = 9223372036854775807 := by unfold wrap64; omega
          clear h1
          go_enter Tryd.func50, Tryd.ntmps50
          go_wp2_with (first
            | (go_at_call 71; refine (within_yes _ _ _ (by omega)).mono ?_; rintro e w' ⟨rfl, rfl⟩)
            | (go_at_call 71; refine (within_no _ _ _ (by omega)).mono ?_; rintro e w' ⟨rfl, rfl⟩))
          all_goals
            go_ret
            exact ⟨rfl, below_alloc (Below.refl _ _) _⟩
        · rw [if_neg hl0] at h1
          go_enter Tryd.func50, Tryd.ntmps50
          go_wp2_with (first
            | (go_at_call 71; refine (within_yes _ _ _ (by omega)).mono ?_; rintro e w' ⟨rfl, rfl⟩)
            | (go_at_call 71; refine (within_no _ _ _ (by omega)).mono ?_; rintro e w' ⟨rfl, rfl⟩))
          all_goals
            go_ret
            exact ⟨rfl, below_alloc (Below.refl _ _) _⟩
    · clear h1
      go_enter Tryd.func50, Tryd.ntmps50
      go_wp2_with (first
        | (go_at_call 71; refine (within_yes _ _ _ (by omega)).mono ?_; rintro e w' ⟨rfl, rfl⟩)
        | (go_at_call 71; refine (within_no _ _ _ (by omega)).mono ?_; rintro e w' ⟨rfl, rfl⟩))
      all_goals
        go_ret
        exact ⟨rfl, below_alloc (Below.refl _ _) _⟩
end Go.Proofs.YtblfmofhfbbmdaaDoor
