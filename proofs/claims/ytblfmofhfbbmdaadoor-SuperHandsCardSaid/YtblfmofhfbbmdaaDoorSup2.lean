/- Check of a superblock, the program's and the reference's; the reference's Config. -/
import Derived.Test.YtblfmofhfbbmdaaDoorSup1
set_option linter.unusedVariables false
set_option linter.unusedSimpArgs false
namespace Go.Proofs.YtblfmofhfbbmdaaDoor
open Go.RowKit Crc

theorem sup_case (s : Sup) : (¬ CfgOk s ∧ cfgE s = 3 ∧ supE s = 3) ∨ (CfgOk s ∧ cfgE s = 0 ∧ s.t ≤ 4611686018427387904 ∧ 1 ≤ s.f ∧ s.f ≤ 4611686018427387904 ∧ supE s = 0) ∨ (CfgOk s ∧ cfgE s = 0 ∧ ¬ (s.t ≤ 4611686018427387904 ∧ 1 ≤ s.f ∧ s.f ≤ 4611686018427387904) ∧ supE s = 70) := by
  by_cases hk : CfgOk s
  · by_cases hs : SupOk s
    · exact Or.inr (Or.inl ⟨hk, if_pos hk, hs.2.1, hs.2.2.1, hs.2.2.2, by rw [supE, if_pos hk, if_pos hs]⟩)
    · exact Or.inr (Or.inr ⟨hk, if_pos hk, fun h => hs ⟨hk, h⟩, by rw [supE, if_pos hk, if_neg hs]⟩)
  · exact Or.inl ⟨hk, if_neg hk, if_neg hk⟩

set_option maxRecDepth 100000 in
set_option maxHeartbeats 4000000 in
theorem rconfig_any (s : Sup) (w : World) (hs : s.ok) : Calls Tryd.prog 51 #[.agg s.cfg] w fun x w' => x = .returned (.int .i64 (cfgE s)) ∧ Below w.heap.size w w' := by
  obtain ⟨hob, hol, hom, hoh, hoc, -, -⟩ := hs
  obtain ⟨b, l, m, hi, c, t, f⟩ := s
  show Calls Tryd.prog 51 #[.agg #[.int .i64 b, .int .i64 l, .int .i64 m, .int .i64 hi, .int .i64 c]] w _
  have h1 := sub1 l hol
  simp only [i64ok] at hob hol hom hoh hoc
  have hcase := cfg_case ⟨b, l, m, hi, c, t, f⟩
  generalize cfgE ⟨b, l, m, hi, c, t, f⟩ = ex at hcase
  simp only [CfgOk] at hcase
  rcases hcase with ⟨hk, rfl⟩ | ⟨hk, rfl⟩
  · rw [if_neg (by omega)] at h1
    obtain ⟨⟨b1, b2⟩, ⟨l1, l2⟩, ⟨m1, m2, m3, m4⟩, ⟨x1, x2⟩, ⟨c1, c2⟩⟩ := hk
    go_enter Tryd.func51, Tryd.ntmps51
    go_wp2
    go_ret
    exact ⟨rfl, below_alloc (Below.refl _ _) _⟩
  · by_cases hb1 : b < 1
    · clear h1 hk
      go_enter Tryd.func51, Tryd.ntmps51
      go_wp2
      go_ret
      exact ⟨rfl, below_alloc (Below.refl _ _) _⟩
    by_cases hb2 : 64 < b
    · clear h1 hk
      go_enter Tryd.func51, Tryd.ntmps51
      go_wp2
      go_ret
      exact ⟨rfl, below_alloc (Below.refl _ _) _⟩
    by_cases hl1 : l < 2
    · clear h1 hk
      go_enter Tryd.func51, Tryd.ntmps51
      go_wp2
      go_ret
      exact ⟨rfl, below_alloc (Below.refl _ _) _⟩
    by_cases hl2 : 64 < l
    · clear h1 hk
      go_enter Tryd.func51, Tryd.ntmps51
      go_wp2
      go_ret
      exact ⟨rfl, below_alloc (Below.refl _ _) _⟩
    rw [if_neg (by omega)] at h1
    by_cases hm1 : m < 1
    · clear h1 hk
      go_enter Tryd.func51, Tryd.ntmps51
      go_wp2
      go_ret
      exact ⟨rfl, below_alloc (Below.refl _ _) _⟩
    by_cases hm2 : 16 < m
    · clear h1 hk
      go_enter Tryd.func51, Tryd.ntmps51
      go_wp2
      go_ret
      exact ⟨rfl, below_alloc (Below.refl _ _) _⟩
    by_cases hm3 : b < m
    · clear h1 hk
      go_enter Tryd.func51, Tryd.ntmps51
      go_wp2
      go_ret
      exact ⟨rfl, below_alloc (Below.refl _ _) _⟩
    by_cases hm4 : l - 1 < m
    · clear hk
      go_enter Tryd.func51, Tryd.ntmps51
      go_wp2
      go_ret
      exact ⟨rfl, below_alloc (Below.refl _ _) _⟩
    by_cases hh1 : hi < 1
    · clear hk
      go_enter Tryd.func51, Tryd.ntmps51
      go_wp2
      go_ret
      exact ⟨rfl, below_alloc (Below.refl _ _) _⟩
    by_cases hh2 : l < hi
    · clear hk
      go_enter Tryd.func51, Tryd.ntmps51
      go_wp2
      go_ret
      exact ⟨rfl, below_alloc (Below.refl _ _) _⟩
    by_cases hc1 : c < 1
    · clear hk
      go_enter Tryd.func51, Tryd.ntmps51
      go_wp2
      go_ret
      exact ⟨rfl, below_alloc (Below.refl _ _) _⟩
    have hc2 : 8 < c := by omega
    clear hk
    go_enter Tryd.func51, Tryd.ntmps51
    go_wp2
    go_ret
    exact ⟨rfl, below_alloc (Below.refl _ _) _⟩

set_option maxRecDepth 100000 in
set_option maxHeartbeats 4000000 in
theorem check_any (s : Sup) (w : World) (hs : s.ok) : Calls Tryd.prog 49 #[.agg s.cells] w fun x w' => x = .returned (.int .i64 (supE s)) ∧ Below w.heap.size w w' := by
  have HA := Lib.hid (SAt.new 54 w s)
  have hb0 := Lib.hid (below_alloc (Below.refl w.heap.size w) (.cells s.cells 54))
  have hcase := sup_case s
  have ht := hs.t
  have hf := hs.f
  simp only [u64ok] at ht hf
  obtain ⟨ex, hex⟩ : ∃ ex, supE s = ex := ⟨_, rfl⟩
  obtain ⟨ce, hce⟩ : ∃ ce, cfgE s = ce := ⟨_, rfl⟩
  rw [hex] at hcase ⊢
  rw [hce] at hcase
  have Hce := Lib.hid hce
  clear hex hce
  go_enter Tryd.func49, Tryd.ntmps49
  go_wp2_with (first
    | (refine go_value (o := ⟨some 5, _, _, _, _, _⟩) (by rfl) (ex_load HA.out.cfg rfl rfl) ?_))
  refine (config_any s _ hs).mono ?_
  rw [Hce.out]
  rintro e w1 ⟨rfl, hb1⟩
  have h5 := (HA.out.below hb1).t
  have h6 := (HA.out.below hb1).f
  have hb2 := Lib.hid (below_then hb0.out hb1)
  clear hb1 HA
  generalize s.t = t at hcase h5 ht
  generalize s.f = f at hcase h6 hf
  rcases hcase with ⟨-, rfl, rfl⟩ | ⟨-, rfl, a1, a2, a3, rfl⟩ | ⟨-, rfl, hn, rfl⟩
  · go_wp2
    go_ret
    exact ⟨rfl, hb2.out⟩
  · go_wp2
    go_ret
    exact ⟨rfl, hb2.out⟩
  · by_cases h1 : 4611686018427387904 < t
    · clear hn
      go_wp2
      go_ret
      exact ⟨rfl, hb2.out⟩
    by_cases h2 : f < 1
    · clear hn
      go_wp2
      go_ret
      exact ⟨rfl, hb2.out⟩
    have h3 : 4611686018427387904 < f := by omega
    clear hn
    go_wp2
    go_ret
    exact ⟨rfl, hb2.out⟩

set_option maxRecDepth 100000 in
set_option maxHeartbeats 4000000 in
theorem rcheck_any (s : Sup) (w : World) (hs : s.ok) : Calls Tryd.prog 70 #[.agg s.cells] w fun x w' => x = .returned (.int .i64 (supE s)) ∧ Below w.heap.size w w' := by
  have HA := Lib.hid (SAt.new 51 w s)
  have hb0 := Lib.hid (below_alloc (Below.refl w.heap.size w) (.cells s.cells 51))
  have hcase := sup_case s
  have ht := hs.t
  have hf := hs.f
  simp only [u64ok] at ht hf
  obtain ⟨ex, hex⟩ : ∃ ex, supE s = ex := ⟨_, rfl⟩
  obtain ⟨ce, hce⟩ : ∃ ce, cfgE s = ce := ⟨_, rfl⟩
  rw [hex] at hcase ⊢
  rw [hce] at hcase
  have Hce := Lib.hid hce
  clear hex hce
  go_enter Tryd.func70, Tryd.ntmps70
  go_wp2_with (first
    | (refine go_value (o := ⟨some 5, _, _, _, _, _⟩) (by rfl) (ex_load HA.out.cfg rfl rfl) ?_))
  refine (rconfig_any s _ hs).mono ?_
  rw [Hce.out]
  rintro e w1 ⟨rfl, hb1⟩
  have h5 := (HA.out.below hb1).t
  have h6 := (HA.out.below hb1).f
  have hb2 := Lib.hid (below_then hb0.out hb1)
  clear hb1 HA
  generalize s.t = t at hcase h5 ht
  generalize s.f = f at hcase h6 hf
  rcases hcase with ⟨-, rfl, rfl⟩ | ⟨-, rfl, a1, a2, a3, rfl⟩ | ⟨-, rfl, hn, rfl⟩
  · go_wp2
    go_ret
    exact ⟨rfl, hb2.out⟩
  · go_wp2
    go_ret
    exact ⟨rfl, hb2.out⟩
  · by_cases h1 : 4611686018427387904 < t
    · clear hn
      go_wp2
      go_ret
      exact ⟨rfl, hb2.out⟩
    by_cases h2 : f < 1
    · clear hn
      go_wp2
      go_ret
      exact ⟨rfl, hb2.out⟩
    have h3 : 4611686018427387904 < f := by omega
    clear hn
    go_wp2
    go_ret
    exact ⟨rfl, hb2.out⟩
end Go.Proofs.YtblfmofhfbbmdaaDoor
