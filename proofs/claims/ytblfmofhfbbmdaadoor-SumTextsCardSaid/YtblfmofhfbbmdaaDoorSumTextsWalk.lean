/- The walk of the law SumTexts: it returns true, and nothing that was there has turned. -/
import Derived.Test.YtblfmofhfbbmdaaDoorFixed
set_option linter.unusedVariables false
set_option linter.unusedSimpArgs false
namespace Go.Proofs.YtblfmofhfbbmdaaDoor
open Go.RowKit Crc

theorem join_sum (x y : List Int) (n : Int) (h : n = (y.length : Int)) : joinI (sum x) (sum y) n = sum (x ++ y) := by
  subst h
  unfold joinI
  rw [if_neg (by omega), Int.toNat_natCast]
  show un (it (8 * y.length) (bv (un (sumB x))) ^^^ bv (un (sumB y))) = un (sumB (x ++ y))
  rw [bv_un, bv_un, sumB_append]

/-- max(n, -(n+1))/2 of a number: from 0 to 2^62. -/
theorem half_of (n : Int) (hn : -9223372036854775808 ≤ n ∧ n ≤ 9223372036854775807) : ∃ N : Int, (n < wrap64 (-wrap64 (n + 1)) → wrap64 ((wrap64 (-wrap64 (n + 1))).tdiv 2) = N) ∧ (wrap64 (-wrap64 (n + 1)) ≤ n → wrap64 (n.tdiv 2) = N) ∧ 0 ≤ N ∧ N ≤ 4611686018427387903 := by
  by_cases h : n < 0
  · refine ⟨(-(n + 1)) / 2, fun _ => ?_, fun h2 => ?_, by omega, by omega⟩
    · rw [show wrap64 (-wrap64 (n + 1)) = -(n + 1) by unfold wrap64; omega, Int.tdiv_eq_ediv_of_nonneg (by omega)]
      unfold wrap64; omega
    · exfalso
      rw [show wrap64 (-wrap64 (n + 1)) = -(n + 1) by unfold wrap64; omega] at h2
      omega
  · refine ⟨n / 2, fun h2 => ?_, fun _ => ?_, by omega, by omega⟩
    · exfalso
      unfold wrap64 at h2
      omega
    · rw [Int.tdiv_eq_ediv_of_nonneg (by omega)]
      unfold wrap64; omega
theorem join_assoc (a b c : Int) (N M : Int) (hN : 0 ≤ N) (hM : 0 ≤ M) : joinI (joinI a b N) c M = joinI a (joinI b c M) (N + M) := by
  unfold joinI
  rw [if_neg (by omega), if_neg (by omega), if_neg (by omega), if_neg (by omega), bv_un, bv_un, it_xor, ← it_add]
  rw [show 8 * (N + M).toNat = 8 * N.toNat + 8 * M.toNat by omega]
  congr 1
  rw [BitVec.xor_assoc]
theorem joinI_range (a b n : Int) : 0 ≤ joinI a b n ∧ joinI a b n < 4294967296 := by
  unfold joinI; split
  · omega
  · exact un_range _

set_option maxRecDepth 100000 in
set_option maxHeartbeats 4000000 in
theorem sumTexts_walk (vx : Value) (x : List Int) (vy : Value) (y : List Int) (vz : Value) (z : List Int) (n m : Int) (w : World) (hx : RBy w vx x) (hxl : x.length ≤ reachBytes) (hy : RBy w vy y) (hyl : y.length ≤ reachBytes) (hz : RBy w vz z) (hzl : z.length ≤ reachBytes)
    (hn : -9223372036854775808 ≤ n ∧ n ≤ 9223372036854775807) (hm : -9223372036854775808 ≤ m ∧ m ≤ 9223372036854775807) (ht : Tab w) :
    Calls Tryd.prog 6 #[vx, vy, vz, .int .i64 n, .int .i64 m] w fun e w' => e = .returned (.bool true) ∧ Below w.heap.size w w' := by
  clear hxl hyl hzl
  go_enter Tryd.func6, Tryd.ntmps6
  go_wp2_with fail
  refine (fixed_any _ ht).mono ?_
  rintro e w1 ⟨rfl, hb1⟩
  go_wp2_with fail
  refine (some_any _ _ _ (hx.below hb1)).mono ?_
  rintro e w2 ⟨ux, rfl, hox, hb⟩
  have hb2 := below_then hb1 hb
  clear hb hb1
  go_wp2_with fail
  refine (some_any _ _ _ (hy.below hb2)).mono ?_
  rintro e w3 ⟨uy, rfl, hoy, hb⟩
  have hb3 := below_then hb2 hb
  replace hox := hox.below hb
  clear hb hb2
  go_wp2_with fail
  refine (some_any _ _ _ (hz.below hb3)).mono ?_
  rintro e w4 ⟨uz, rfl, hoz, hb⟩
  have hb4 := below_then hb3 hb
  replace hox := (hox.below hb).reads
  replace hoy := (hoy.below hb).reads
  replace hoz := hoz.reads
  clear hb hb3 hx hy hz
  generalize x.take 3000 = x at hox
  generalize y.take 3000 = y at hoy
  generalize z.take 3000 = z at hoz
  obtain ⟨Ax, cx, rfl, _, hxn, _⟩ := id hox
  obtain ⟨Ay, cy, rfl, _, hyn, _⟩ := id hoy
  obtain ⟨Az, cz, rfl, _, hzn, _⟩ := id hoz
  go_wp2_with fail
  refine (of_b _ [x] _ ?_ ?_).mono ?_
  · exact RBs.one (heap_top _ _ _ rfl) (by decide) (hox.below (below_alloc (Below.refl _ _) _))
  · exact ht.below (below_alloc hb4 _)
  rintro e w5 ⟨rfl, hb⟩
  rw [show [x].flatten = x by simp]
  have hb5 := below_then (below_alloc hb4 _) hb
  have hq := below_then (below_alloc (Below.refl _ _) _) hb
  replace hox := hox.below hq
  replace hoy := hoy.below hq
  replace hoz := hoz.below hq
  clear hb hb4 hq
  go_wp2_with fail
  refine (of_b _ [y] _ ?_ ?_).mono ?_
  · exact RBs.one (heap_top _ _ _ rfl) (by decide) (hoy.below (below_alloc (Below.refl _ _) _))
  · exact ht.below (below_alloc hb5 _)
  rintro e w6 ⟨rfl, hb⟩
  rw [show [y].flatten = y by simp]
  have hb6 := below_then (below_alloc hb5 _) hb
  have hq := below_then (below_alloc (Below.refl _ _) _) hb
  replace hox := hox.below hq
  replace hoy := hoy.below hq
  replace hoz := hoz.below hq
  clear hb hb5 hq
  go_wp2_with fail
  refine (of_b _ [z] _ ?_ ?_).mono ?_
  · exact RBs.one (heap_top _ _ _ rfl) (by decide) (hoz.below (below_alloc (Below.refl _ _) _))
  · exact ht.below (below_alloc hb6 _)
  rintro e w7 ⟨rfl, hb⟩
  rw [show [z].flatten = z by simp]
  have hb7 := below_then (below_alloc hb6 _) hb
  have hq := below_then (below_alloc (Below.refl _ _) _) hb
  replace hox := hox.below hq
  replace hoy := hoy.below hq
  replace hoz := hoz.below hq
  clear hb hb6 hq
  go_wp2_with fail
  refine (join_any _ _ _ _ (sum_range _) (sum_range _) (by omega) (ht.below hb7)).mono ?_
  rintro e w8 ⟨rfl, hb⟩
  have hb8 := below_then hb7 hb
  replace hox := hox.below hb
  replace hoy := hoy.below hb
  replace hoz := hoz.below hb
  clear hb hb7
  rw [join_sum x y _ rfl, show joinE (y.length : Int) = 0 by unfold joinE; rw [if_neg (by omega)]]
  go_wp2_with fail
  refine (join_any _ _ _ _ (sum_range _) (sum_range _) (by omega) (ht.below hb8)).mono ?_
  rintro e w9 ⟨rfl, hb⟩
  have hb9 := below_then hb8 hb
  replace hox := hox.below hb
  replace hoy := hoy.below hb
  replace hoz := hoz.below hb
  clear hb hb8
  rw [join_sum (x ++ y) z _ rfl, show joinE (z.length : Int) = 0 by unfold joinE; rw [if_neg (by omega)]]
  go_wp2_with fail
  refine (of_b _ [x, y] _ ?_ ?_).mono ?_
  · exact RBs.two (heap_top _ _ _ rfl) (by decide) (hox.below (below_alloc (Below.refl _ _) _)) (hoy.below (below_alloc (Below.refl _ _) _))
  · exact ht.below (below_alloc hb9 _)
  rintro e w10 ⟨rfl, hb⟩
  rw [show [x, y].flatten = x ++ y by simp]
  have hb10 := below_then (below_alloc hb9 _) hb
  have hq := below_then (below_alloc (Below.refl _ _) _) hb
  replace hox := hox.below hq
  replace hoy := hoy.below hq
  replace hoz := hoz.below hq
  clear hb hb9 hq
  go_wp2_with fail
  refine (of_b _ [x, y, z] _ ?_ ?_).mono ?_
  · exact RBs.three (heap_top _ _ _ rfl) (by decide) (hox.below (below_alloc (Below.refl _ _) _)) (hoy.below (below_alloc (Below.refl _ _) _)) (hoz.below (below_alloc (Below.refl _ _) _))
  · exact ht.below (below_alloc hb10 _)
  rintro e w11 ⟨rfl, hb⟩
  rw [show [x, y, z].flatten = x ++ y ++ z by simp]
  have hb11 := below_then (below_alloc hb10 _) hb
  clear hb hb10 hox hoy hoz
  obtain ⟨N, hN1, hN2, hN3, hN4⟩ := half_of n hn
  obtain ⟨M, hM1, hM2, hM3, hM4⟩ := half_of m hm
  have HN1 := Lib.hid hN1
  have HN2 := Lib.hid hN2
  have HM1 := Lib.hid hM1
  have HM2 := Lib.hid hM2
  clear hN1 hN2 hM1 hM2
  have hassoc := Lib.hid (join_assoc (sum x) (sum y) (sum z) N M hN3 hM3)
  have hE1 : joinE M = 0 := by unfold joinE; rw [if_neg (by omega)]
  have hE2 : joinE (N + M) = 0 := by unfold joinE; rw [if_neg (by omega)]
  have HE1 := Lib.hid hE1
  have HE2 := Lib.hid hE2
  clear hE1 hE2
  go_wp2_with fail
  all_goals
    (first | rw [HN1.out (by assumption)] | rw [HN2.out (by assumption)])
    (first | rw [HM1.out (by assumption)] | rw [HM2.out (by assumption)])
    refine (join_any _ _ _ _ (sum_range _) (sum_range _) (by omega) (ht.below hb11)).mono ?_
    rintro e w12 ⟨rfl, hb⟩
    have hb12 := below_then hb11 hb
    clear hb
    go_wp2_with fail
    refine (join_any _ _ _ _ (joinI_range _ _ _) (sum_range _) (by omega) (ht.below hb12)).mono ?_
    rintro e w13 ⟨rfl, hb⟩
    have hb13 := below_then hb12 hb
    clear hb
    rw [HE1.out, hassoc.out]
    go_wp2_with fail
    refine (join_any _ _ _ _ (sum_range _) (sum_range _) (by omega) (ht.below hb13)).mono ?_
    rintro e w14 ⟨rfl, hb⟩
    have hb14 := below_then hb13 hb
    clear hb
    go_wp2_with fail
    refine (join_any _ _ _ _ (sum_range _) (joinI_range _ _ _) (by omega) (ht.below hb14)).mono ?_
    rintro e w15 ⟨rfl, hb⟩
    have hb15 := below_then hb14 hb
    clear hb
    rw [HE2.out]
    go_wp2_with fail
    go_ret
    exact ⟨rfl, hb15⟩
end Go.Proofs.YtblfmofhfbbmdaaDoor
