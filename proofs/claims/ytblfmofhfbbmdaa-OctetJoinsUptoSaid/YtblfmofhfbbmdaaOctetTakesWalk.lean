/- The walk of OctetTakes. -/
import Derived.Test.YtblfmofhfbbmdaaRoom
import Derived.Test.YtblfmofhfbbmdaaBox
set_option linter.unusedVariables false
set_option linter.unusedSimpArgs false
namespace Go.Proofs.Ytblfmofhfbbmdaa
open Go.RowKit

theorem OB.past {w w' : World} {base g : Nat} {v : Value} {xs : List Int} (h : OB w base v xs) (hg : w.grownBy w' (some g)) (hlt : g < base) : OB w' base v xs :=
  h.kept hg (by
    cases hv : v.ownBlock with
    | none => exact Or.inl rfl
    | some b => exact Or.inr (by have := (h.blk b hv).1; simp; omega))
theorem takeF_len (xs : List Int) (s : Int) : (takeF xs s).2.1.length ≤ xs.length := by
  unfold takeF
  split
  · split
    · simp
    · simp
  · simp

set_option maxRecDepth 100000 in
set_option maxHeartbeats 8000000 in
theorem octetTakes_walk (v : Value) (xs : List Int) (s : Int) (vo : Value) (os : List Int) (W : World) (hv : RBy W v xs) (hxl : xs.length ≤ 140737488351232) (hs : -9223372036854775808 ≤ s ∧ s ≤ 9223372036854775807) (hvo : RBy W vo os) (hol : os.length ≤ 140737488351232) :
    Calls Try.prog 5 #[v, .int .i64 s, vo] W fun e w' => e = .returned (.bool true) ∧ Below W.heap.size W w' := by
  have hT1 := takeF_len xs s
  have hT2 := takeF_len os 1
  have hT3 := takeF_len (xs.map flip) s
  rw [List.length_map] at hT3
  go_enter Try.func5, Try.ntmps5
  go_wp2_with fail
  refine (awake_any _).mono ?_
  rintro e w0 ⟨rfl, hb0⟩
  go_wp2_with fail
  refine (rtake_any v xs s _ (hv.below hb0) hs (by omega)).mono ?_
  generalize hT : takeF xs s = T at *
  obtain ⟨tn, tr, te⟩ := T
  simp only at hT1 ⊢
  rintro e w1 ⟨v1, rfl, ho1, hb1⟩
  go_wp2_with fail
  refine (roomy_any v xs _ ((hv.below hb0).below hb1) (by omega)).mono ?_
  rintro e w2 ⟨g, c, rfl, hc, hor, hb2⟩
  have hin := hor.front rfl
  go_wp2_with fail
  refine (take_any _ xs s _ hin.reads hs (by omega)).mono ?_
  rw [hT]
  rintro e w3 ⟨v3, rfl, ho3, hb3⟩
  obtain ⟨A3, k3, rfl, -⟩ := ho3.reads.form
  have c1 := conv_str ((ho1.reads.below hb2).below hb3)
  have c2 := conv_str ho3.reads
  go_wp2_with fail
  refine (take_any _ xs s _ (hin.reads.below hb3) hs (by omega)).mono ?_
  rw [hT]
  rintro e w4 ⟨v4, rfl, ho4, hb4⟩
  obtain ⟨A4, k4, rfl, -⟩ := ho4.reads.form
  have c3 := conv_str (((ho1.reads.below hb2).below hb3).below hb4)
  have c4 := conv_str ho4.reads
  have hB4 := below_then hb0 (below_then hb1 (below_then hb2 (below_then hb3 hb4)))
  go_wp2_with fail
  refine (roomy_any vo os _ (hvo.below hB4) (by omega)).mono ?_
  rintro e w5 ⟨g5, c5, rfl, hc5, hor5, hb5⟩
  go_wp2_with fail
  refine (take_any _ os 1 _ (hor5.front rfl).reads (by omega) (by omega)).mono ?_
  generalize hT' : takeF os 1 = T' at *
  obtain ⟨on, ro, eo⟩ := T'
  simp only at hT2 ⊢
  rintro e w6 ⟨v6, rfl, ho6, hb6⟩
  obtain ⟨A6, k6, rfl, -⟩ := ho6.reads.form
  have h36 := below_then hb4 (below_then hb5 hb6)
  go_wp2_with fail
  refine (take_any _ xs s _ ((hin.reads.below hb3).below h36) hs (by omega)).mono ?_
  rw [hT]
  rintro e w7 ⟨v7, rfl, ho7, hb7⟩
  obtain ⟨A7, k7, rfl, -⟩ := ho7.reads.form
  have h37 := below_then h36 hb7
  have h27 := below_then hb3 h37
  have h47 := below_then hb5 (below_then hb6 hb7)
  have c5' := conv_str ((ho1.reads.below hb2).below h27)
  have c6 := conv_str (ho3.reads.below h37)
  have c7 := conv_str (ho4.reads.below h47)
  have c8 := conv_str ho7.reads
  have hB7 := below_then hb0 (below_then hb1 (below_then hb2 h27))
  go_wp2_with fail
  refine (held_any g xs.length c v xs _ (by have h9 := hor.reads.below h27; simpa using h9) rfl hc (hv.below hB7)).mono ?_
  rintro e w8 ⟨rfl, hb8⟩
  clear c1 c2 c3 c4 c5' c6 c7 c8
  have h28 := below_then h27 hb8
  have h38 := below_then h37 hb8
  have h48 := below_then h47 hb8
  have h68 := below_then hb7 hb8
  have hB8 := below_then hB7 hb8
  have s0 := hb0.size
  have s1 := hb1.size
  have s2 := hb2.size
  have s3 := hb3.size
  have s4 := hb4.size
  have s5 := hb5.size
  have s6 := hb6.size
  have s7 := hb7.size
  have s8 := hb8.size
  go_wp2_with fail
  refine (turn_any _ xs _ w1.heap.size (hin.below h28) (by omega) (by omega)).mono ?_
  rintro e w9 ⟨rfl, ho9, hg9⟩
  have hgb := hor.blk g rfl
  have hg9 : w8.grownBy w9 (some g) := hg9
  have ho3' := (ho3.below h38).past hg9 (by omega)
  have ho4' := (ho4.below h48).past hg9 (by omega)
  have ho6' := (ho6.below h68).past hg9 (by omega)
  have ho7' := (ho7.below hb8).past hg9 (by omega)
  have hB9 : Below W.heap.size W w9 := hB8.grown hg9 hB8.size (fun j hj => by
    have e9 : g = j := by simpa [Value.ownBlock] using hj
    omega)
  have s9 := hg9.size
  clear hB8 hB7 hB4 hg9
  go_wp2_with fail
  refine (own_any _ (xs.map flip) _ (by have h9 := ho9.reads; exact h9) (by simp; omega)).mono ?_
  rintro e w10 ⟨v10, rfl, ho10, hb10⟩
  go_wp2_with fail
  refine (rtake_any _ (xs.map flip) s _ ho10.reads hs (by simp; omega)).mono ?_
  generalize hT'' : takeF (xs.map flip) s = T'' at *
  obtain ⟨un, ur, ue⟩ := T''
  simp only at hT3 ⊢
  rintro e w11 ⟨v11, rfl, ho11, hb11⟩
  go_wp2_with fail
  refine (take_any _ (xs.map flip) s _ (ho9.reads.below (below_then hb10 hb11)) hs (by simp; omega)).mono ?_
  rw [hT'']
  rintro e w12 ⟨v12, rfl, ho12, hb12⟩
  obtain ⟨A12, k12, rfl, -⟩ := ho12.reads.form
  have d1 := conv_str (ho11.reads.below hb12)
  have d2 := conv_str ho12.reads
  have h912 := below_then hb10 (below_then hb11 hb12)
  have hB12 := below_then hB9 h912
  have s10 := hb10.size
  have s11 := hb11.size
  have s12 := hb12.size
  go_wp2_with fail
  have hst := St.made (k := .u8) (e := 5) (T := 23) (base := W.heap.size) (w := w12) (its := [(.slice A3 tr.length k3, tr), (.slice A4 tr.length k4, tr), (.slice A6 ro.length k6, ro), (.slice A7 tr.length k7, tr), (.slice A12 ur.length k12, ur)]) (by omega) (by simp)
    (by
      intro q hq
      simp only [List.mem_cons, List.mem_nil_iff, or_false] at hq
      rcases hq with rfl | rfl | rfl | rfl | rfl
      · exact ((ho3'.below h912).lower (by omega)).oi
      · exact ((ho4'.below h912).lower (by omega)).oi
      · exact ((ho6'.below h912).lower (by omega)).oi
      · exact ((ho7'.below h912).lower (by omega)).oi
      · exact (ho12.lower (by omega)).oi)
    (lo := 0) ⟨_, _, by omega, ho3.lies, ⟨_, _, by omega, ho4.lies, ⟨_, _, by omega, ho6.lies, ⟨_, _, by omega, ho7.lies, ⟨_, _, by omega, ho12.lies, trivial, by omega⟩, by omega⟩, by omega⟩, by omega⟩, by omega⟩ rfl
  refine (apart_any _ W.heap.size _ _ hst (by simp; omega) (by simp) ?_).mono ?_
  · intro j q hq
    have := List.mem_of_getElem? hq
    simp only [List.mem_cons, List.mem_nil_iff, or_false] at this
    rcases this with rfl | rfl | rfl | rfl | rfl <;> simp <;> omega
  rintro e w13 ⟨rfl, hb13⟩
  go_wp2_with fail
  go_ret
  exact ⟨rfl, (below_alloc hB12 _).trans hb13⟩
end Go.Proofs.Ytblfmofhfbbmdaa
