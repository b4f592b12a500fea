/- The walk of OctetPads. -/
import Derived.Test.YtblfmofhfbbmdaaOctetTakesWalk
set_option linter.unusedVariables false
set_option linter.unusedSimpArgs false
namespace Go.Proofs.Ytblfmofhfbbmdaa
open Go.RowKit

theorem padF_len (xs : List Int) (s : Int) : (padF xs s).1.length ≤ 64 := by
  unfold padF
  split
  · simp
  · split
    · simp
    · simp; omega

set_option maxRecDepth 100000 in
set_option maxHeartbeats 8000000 in
theorem octetPads_walk (v : Value) (xs : List Int) (s : Int) (W : World) (hv : RBy W v xs) (hxl : xs.length ≤ 140737488351232) (hs : -9223372036854775808 ≤ s ∧ s ≤ 9223372036854775807) :
    Calls Try.prog 8 #[v, .int .i64 s] W fun e w' => e = .returned (.bool true) ∧ Below W.heap.size W w' := by
  have hT1 := padF_len xs s
  have hT2 := padF_len [3] 64
  have hT3 := padF_len (xs.map flip) s
  go_enter Try.func8, Try.ntmps8
  go_wp2_with fail
  refine (awake_any _).mono ?_
  rintro e w0 ⟨rfl, hb0⟩
  go_wp2_with fail
  refine (rpad_any v xs s _ (hv.below hb0) hs).mono ?_
  generalize hT : padF xs s = T at *
  obtain ⟨tr, te⟩ := T
  simp only at hT1 ⊢
  rintro e w1 ⟨v1, rfl, ho1, hb1⟩
  go_wp2_with fail
  refine (roomy_any v xs _ ((hv.below hb0).below hb1) (by omega)).mono ?_
  rintro e w2 ⟨g, c, rfl, hc, hor, hb2⟩
  have hin := hor.front rfl
  go_wp2_with fail
  refine (pad_any _ xs s _ hin.reads hs).mono ?_
  rw [hT]
  rintro e w3 ⟨v3, rfl, ho3, hb3⟩
  obtain ⟨A3, k3, rfl, -⟩ := ho3.reads.form
  have c1 := conv_str ((ho1.reads.below hb2).below hb3)
  have c2 := conv_str ho3.reads
  go_wp2_with fail
  refine (pad_any _ xs s _ (hin.reads.below hb3) hs).mono ?_
  rw [hT]
  rintro e w4 ⟨v4, rfl, ho4, hb4⟩
  obtain ⟨A4, k4, rfl, -⟩ := ho4.reads.form
  have c3 := conv_str (((ho1.reads.below hb2).below hb3).below hb4)
  have c4 := conv_str ho4.reads
  go_wp2_with fail
  refine (pad_any _ [3] 64 _ (RBy.box w4 3 (by omega)) (by omega)).mono ?_
  generalize hT' : padF [3] 64 = T' at *
  obtain ⟨ro, eo⟩ := T'
  simp only at hT2 ⊢
  rintro e w5 ⟨v5, rfl, ho5, hb5⟩
  obtain ⟨A5, k5, rfl, -⟩ := ho5.reads.form
  replace ho5 := ho5.lower (b2 := w4.heap.size) (by simp)
  replace hb5 := below_then (below_alloc (Below.refl _ _) _) hb5
  have h35 := below_then hb4 hb5
  go_wp2_with fail
  refine (pad_any _ xs s _ ((hin.reads.below hb3).below h35) hs).mono ?_
  rw [hT]
  rintro e w6 ⟨v6, rfl, ho6, hb6⟩
  obtain ⟨A6, k6, rfl, -⟩ := ho6.reads.form
  have h36 := below_then h35 hb6
  have h26 := below_then hb3 h36
  have h46 := below_then hb5 hb6
  have c5' := conv_str ((ho1.reads.below hb2).below h26)
  have c6 := conv_str (ho3.reads.below h36)
  have c7 := conv_str (ho4.reads.below h46)
  have c8 := conv_str ho6.reads
  have hB6 := below_then hb0 (below_then hb1 (below_then hb2 h26))
  go_wp2_with fail
  refine (held_any g xs.length c v xs _ (by have h9 := hor.reads.below h26; simpa using h9) rfl hc (hv.below hB6)).mono ?_
  rintro e w7 ⟨rfl, hb7⟩
  clear c1 c2 c3 c4 c5' c6 c7 c8
  have h27 := below_then h26 hb7
  have h37 := below_then h36 hb7
  have h47 := below_then h46 hb7
  have h57 := below_then hb6 hb7
  have hB7 := below_then hB6 hb7
  have s0 := hb0.size
  have s1 := hb1.size
  have s2 := hb2.size
  have s3 := hb3.size
  have s4 := hb4.size
  have s5 := hb5.size
  have s6 := hb6.size
  have s7 := hb7.size
  go_wp2_with fail
  refine (turn_any _ xs _ w1.heap.size (hin.below h27) (by omega) (by omega)).mono ?_
  rintro e w8 ⟨rfl, ho8, hg8⟩
  have hgb := hor.blk g rfl
  have hg8 : w7.grownBy w8 (some g) := hg8
  have ho3' := (ho3.below h37).past hg8 (by omega)
  have ho4' := (ho4.below h47).past hg8 (by omega)
  have ho5' := (ho5.below h57).past hg8 (by omega)
  have ho6' := (ho6.below hb7).past hg8 (by omega)
  have hB8 : Below W.heap.size W w8 := hB7.grown hg8 hB7.size (fun j hj => by
    have e9 : g = j := by simpa [Value.ownBlock] using hj
    omega)
  have s8 := hg8.size
  clear hB7 hB6 hg8
  go_wp2_with fail
  refine (own_any _ (xs.map flip) _ (by have h9 := ho8.reads; exact h9) (by simp; omega)).mono ?_
  rintro e w9 ⟨v9, rfl, ho9, hb9⟩
  go_wp2_with fail
  refine (rpad_any _ (xs.map flip) s _ ho9.reads hs).mono ?_
  generalize hT'' : padF (xs.map flip) s = T'' at *
  obtain ⟨ur, ue⟩ := T''
  simp only at hT3 ⊢
  rintro e w10 ⟨v10, rfl, ho10, hb10⟩
  go_wp2_with fail
  refine (pad_any _ (xs.map flip) s _ (ho8.reads.below (below_then hb9 hb10)) hs).mono ?_
  rw [hT'']
  rintro e w11 ⟨v11, rfl, ho11, hb11⟩
  obtain ⟨A11, k11, rfl, -⟩ := ho11.reads.form
  have d1 := conv_str (ho10.reads.below hb11)
  have d2 := conv_str ho11.reads
  have h811 := below_then hb9 (below_then hb10 hb11)
  have hB11 := below_then hB8 h811
  have s9 := hb9.size
  have s10 := hb10.size
  have s11 := hb11.size
  go_wp2_with fail
  refine (blank_any _ (xs.map flip) _ (ho8.reads.below h811)).mono ?_
  rintro e w12 ⟨rfl, rfl⟩
  go_wp2_with fail
  refine (rblank_any _ (xs.map flip) _ (ho8.reads.below h811)).mono ?_
  rintro e w12 ⟨rfl, rfl⟩
  go_wp2_with fail
  have hst := St.made (k := .u8) (e := 5) (T := 23) (base := W.heap.size) (w := w11) (its := [(.slice A3 tr.length k3, tr), (.slice A4 tr.length k4, tr), (.slice A5 ro.length k5, ro), (.slice A6 tr.length k6, tr), (.slice A11 ur.length k11, ur)]) (by omega) (by simp)
    (by
      intro q hq
      simp only [List.mem_cons, List.mem_nil_iff, or_false] at hq
      rcases hq with rfl | rfl | rfl | rfl | rfl
      · exact ((ho3'.below h811).lower (by omega)).oi
      · exact ((ho4'.below h811).lower (by omega)).oi
      · exact ((ho5'.below h811).lower (by omega)).oi
      · exact ((ho6'.below h811).lower (by omega)).oi
      · exact (ho11.lower (by omega)).oi)
    (lo := 0) ⟨_, _, by omega, ho3.lies, ⟨_, _, by omega, ho4.lies, ⟨_, _, by omega, ho5.lies, ⟨_, _, by omega, ho6.lies, ⟨_, _, by omega, ho11.lies, trivial, by omega⟩, by omega⟩, by omega⟩, by omega⟩, by omega⟩ rfl
  refine (apart_any _ W.heap.size _ _ hst (by simp; omega) (by simp) ?_).mono ?_
  · intro j q hq
    have := List.mem_of_getElem? hq
    simp only [List.mem_cons, List.mem_nil_iff, or_false] at this
    rcases this with rfl | rfl | rfl | rfl | rfl <;> simp <;> omega
  rintro e w13 ⟨rfl, hb13⟩
  go_wp2_with fail
  go_ret
  exact ⟨rfl, (below_alloc hB11 _).trans hb13⟩
end Go.Proofs.Ytblfmofhfbbmdaa
