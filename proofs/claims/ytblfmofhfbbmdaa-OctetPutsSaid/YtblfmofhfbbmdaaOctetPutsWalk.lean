/- The walk of OctetPuts. -/
import Derived.Test.YtblfmofhfbbmdaaApart
import Derived.Test.YtblfmofhfbbmdaaBox
set_option linter.unusedVariables false
set_option linter.unusedSimpArgs false
namespace Go.Proofs.Ytblfmofhfbbmdaa
open Go.RowKit

theorem putL_len (n s : Int) : (putL n s).length ≤ 8 := by
  unfold putL
  split
  · split
    · rw [le_length]; omega
    · simp
  · simp

set_option maxRecDepth 100000 in
set_option maxHeartbeats 4000000 in
theorem octetPuts_walk (n s o : Int) (W : World) (hn : 0 ≤ n ∧ n < 18446744073709551616) (hs : -9223372036854775808 ≤ s ∧ s ≤ 9223372036854775807) (ho : 0 ≤ o ∧ o < 18446744073709551616) :
    Calls Try.prog 4 #[.int .u64 n, .int .i64 s, .int .u64 o] W fun e w' => e = .returned (.bool true) ∧ Below W.heap.size W w' := by
  have hl1 := putL_len n s
  have hl2 := putL_len o 8
  go_enter Try.func4, Try.ntmps4
  go_wp2_with fail
  refine (awake_any _).mono ?_
  rintro e w0 ⟨rfl, hb0⟩
  go_wp2_with fail
  refine (rput_any n s _ hn hs).mono ?_
  generalize hP : putL n s = P at *
  rintro e w1 ⟨v1, rfl, ho1, hb1⟩
  go_wp2_with fail
  refine (put_any n s _ hn hs).mono ?_
  rw [hP]
  rintro e w2 ⟨v2, rfl, ho2, hb2⟩
  obtain ⟨A2, k2, rfl, -⟩ := ho2.reads.form
  have c1 := conv_str (ho1.reads.below hb2)
  have c2 := conv_str ho2.reads
  go_wp2_with fail
  refine (put_any n s _ hn hs).mono ?_
  rw [hP]
  rintro e w3 ⟨v3, rfl, ho3, hb3⟩
  obtain ⟨A3, k3, rfl, -⟩ := ho3.reads.form
  have c3 := conv_str ((ho1.reads.below hb2).below hb3)
  have c4 := conv_str ho3.reads
  go_wp2_with fail
  refine (put_any o 8 _ ho (by omega)).mono ?_
  generalize putL o 8 = Q at *
  rintro e w4 ⟨v4, rfl, ho4, hb4⟩
  obtain ⟨A4, k4, rfl, -⟩ := ho4.reads.form
  have c5 := conv_str (((ho1.reads.below hb2).below hb3).below hb4)
  have c6 := conv_str ((ho2.reads.below hb3).below hb4)
  have c7 := conv_str (ho3.reads.below hb4)
  go_wp2_with fail
  have hw := below_then hb0 (below_then hb1 (below_then hb2 (below_then hb3 hb4)))
  have s0 := hb0.size
  have s1 := hb1.size
  have s2 := hb2.size
  have s3 := hb3.size
  have s4 := hb4.size
  have hst := St.made (k := .u8) (e := 5) (T := 23) (base := W.heap.size) (w := w4) (its := [(.slice A2 P.length k2, P), (.slice A3 P.length k3, P), (.slice A4 Q.length k4, Q)]) (by omega) (by simp)
    (by
      intro q hq
      simp only [List.mem_cons, List.mem_nil_iff, or_false] at hq
      rcases hq with rfl | rfl | rfl
      · exact (((ho2.below hb3).below hb4).lower (by omega)).oi
      · exact ((ho3.below hb4).lower (by omega)).oi
      · exact (ho4.lower (by omega)).oi)
    (lo := 0) ⟨_, _, by omega, ho2.lies, ⟨_, _, by omega, ho3.lies, ⟨_, _, by omega, ho4.lies, trivial, by omega⟩, by omega⟩, by omega⟩ rfl
  refine (apart_any _ W.heap.size _ _ hst (by simp; omega) (by simp) ?_).mono ?_
  · intro j q hq
    have := List.mem_of_getElem? hq
    simp only [List.mem_cons, List.mem_nil_iff, or_false] at this
    rcases this with rfl | rfl | rfl <;> simp <;> omega
  rintro e w5 ⟨rfl, hb5⟩
  go_wp2_with fail
  go_ret
  exact ⟨rfl, (below_alloc hw _).trans hb5⟩
end Go.Proofs.Ytblfmofhfbbmdaa
