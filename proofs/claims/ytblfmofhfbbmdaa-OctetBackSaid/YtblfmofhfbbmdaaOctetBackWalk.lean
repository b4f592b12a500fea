/- The walk of OctetBack. -/
import Derived.Test.YtblfmofhfbbmdaaAwake
import Derived.Test.YtblfmofhfbbmdaaNums
import Derived.BigQuiet
import Derived.Deep.Cut
import Derived.Test.YtblfmofhfbbmdaaWLast
import Derived.Test.YtblfmofhfbbmdaaWMore
import Derived.Test.YtblfmofhfbbmdaaWTab
import Derived.Test.YtblfmofhfbbmdaaWGuard
set_option linter.unusedVariables false
set_option linter.unusedSimpArgs false
namespace Go.Proofs.Ytblfmofhfbbmdaa
open Go.RowKit Go.Proofs.YtblfmofhfbbmdaaW.PrintWords Go.Proofs.YtblfmofhfbbmdaaW.PrintLast Go.Proofs.YtblfmofhfbbmdaaW.PrintMore
/- The order of region 15, as the kit's printer tells it. -/
def T15 : Bool × List (List Nat × List Nat) := (true, [([], []), ([0], [0]), ([1], [1]), ([2], [2]), ([3, 2], [2, 3]), ([2, 4], [2, 4]), ([5, 2], [5]), ([6], [6]), ([6], [6]), ([7, 8, 6], [6, 7, 8]), ([9, 6, 6], [6, 9]), ([10, 6], [6, 10]), ([6], [6]), ([12, 6], [6, 12]), ([11, 13, 6], [6, 11, 13]), ([6, 14], [6, 14]), ([15, 10, 0, 1, 2, 3, 4, 5, 6, 7, 8, 9, 10, 11, 12, 13, 14, 15], [15])])
def B15 : List Nat := [0, 1, 3, 7, 15, 31, 63, 127, 127, 511, 1023, 2047, 127, 4223, 16383, 32767, 65535]
theorem tab15 : rtab .any (opsOf Try.f9 15) = T15 := by kernel_rfl
theorem bits15 : waitsOk T15.2 B15 = true := by kernel_rfl

set_option maxRecDepth 100000 in
set_option maxHeartbeats 800000 in
theorem octetBack_walk (n m s : Int) (v : Value) (b : List Int) (W : World) (hn : 0 ≤ n ∧ n < 18446744073709551616) (hm : 0 ≤ m ∧ m < 18446744073709551616) (hs : -9223372036854775808 ≤ s ∧ s ≤ 9223372036854775807) (hv : RBy W v b) (hbl : b.length ≤ 140737488351232) :
    Calls Try.prog 9 #[.int .u64 n, .int .u64 m, .int .i64 s, v] W fun e w' => e = .returned (.bool true) ∧ Below W.heap.size W w' := by
  go_enter Try.func9, Try.ntmps9
  go_wp2_with fail
  refine (awake_any _).mono ?_
  rintro e w0 ⟨rfl, hb0⟩
  have hr1 : -8 < s.tmod 8 ∧ s.tmod 8 < 8 := by
    have := Int.tmod_lt_of_pos s (b := 8) (by decide)
    have := Int.lt_tmod_of_pos s (b := 8) (by decide)
    omega
  go_upto_if 29 with fail
  go_cut [0, 1, 9] from 23 (fun s0 s1 s9 wx => ∃ (κ : Nat) (n' m' : Int), s0 = .int .u64 n' ∧ s1 = .int .u64 m' ∧ s9 = .int .i64 κ ∧ Below W.heap.size W wx ∧ Hid (1 ≤ κ ∧ κ ≤ 8) ∧ Hid (0 ≤ n' ∧ n' < 18446744073709551616) ∧ Hid (0 ≤ m' ∧ m' < 18446744073709551616) ∧ Hid (n' / 256 ^ κ = 0) ∧ Hid (m' / 256 ^ κ = 0))
  case first =>
    obtain ⟨κ, hκe⟩ := Int.eq_ofNat_of_zero_le (by omega : 0 ≤ s.tmod 8 % 8 + 1)
    have hκ : 1 ≤ κ ∧ κ ≤ 8 := by omega
    rw [hκe]
    clear hr1 hκe
    by_cases hlt : (κ : Int) < 8
    · have h8 : IntKind.i64.wrap (8 * (κ : Int)) = 8 * (κ : Int) := by simp [IntKind.wrap, IntKind.bits, IntKind.signed]; omega
      obtain ⟨q, hq⟩ : ∃ q, IntKind.u64.wrap (2 ^ (8 * (κ : Int)).toNat) = q := ⟨_, rfl⟩
      have hκ7 : κ = 1 ∨ κ = 2 ∨ κ = 3 ∨ κ = 4 ∨ κ = 5 ∨ κ = 6 ∨ κ = 7 := by omega
      have hq2 : q = 256 ^ κ := by
        rw [← hq]
        rcases hκ7 with rfl | rfl | rfl | rfl | rfl | rfl | rfl <;> decide
      have hq3 : 0 < q ∧ q < 18446744073709551616 := by
        rw [hq2]
        rcases hκ7 with rfl | rfl | rfl | rfl | rfl | rfl | rfl <;> decide
      have hq0 : q ≠ 0 := by omega
      obtain ⟨n', hn'⟩ : ∃ n', n.tmod q = n' := ⟨_, rfl⟩
      obtain ⟨m', hm'⟩ : ∃ m', m.tmod q = m' := ⟨_, rfl⟩
      have hn2 : 0 ≤ n' ∧ n' < q := by rw [← hn', Int.tmod_eq_emod_of_nonneg hn.1]; exact ⟨Int.emod_nonneg _ hq0, Int.emod_lt_of_pos _ hq3.1⟩
      have hm2 : 0 ≤ m' ∧ m' < q := by rw [← hm', Int.tmod_eq_emod_of_nonneg hm.1]; exact ⟨Int.emod_nonneg _ hq0, Int.emod_lt_of_pos _ hq3.1⟩
      have hn3 := Lib.hid (show 0 ≤ n' ∧ n' < 18446744073709551616 by omega)
      have hm3 := Lib.hid (show 0 ≤ m' ∧ m' < 18446744073709551616 by omega)
      have Hn4 := Lib.hid (show n' / 256 ^ κ = 0 by rw [← hq2]; exact Int.ediv_eq_zero_of_lt hn2.1 hn2.2)
      have Hm4 := Lib.hid (show m' / 256 ^ κ = 0 by rw [← hq2]; exact Int.ediv_eq_zero_of_lt hm2.1 hm2.2)
      have Hκ := Lib.hid hκ
      clear hq2 hq3 hn2 hm2 hn hm hs hκ7
      go_wp2_with fail
      go_quiet (fail)
      go_wp2_with fail
      go_meet
      case rel => exact ⟨κ, n', m', rfl, rfl, rfl, below_drewN hb0 _, Hκ, hn3, hm3, Hn4, Hm4⟩
    · have h8 : κ = 8 := by omega
      have Hn4 := Lib.hid (show n / 256 ^ κ = 0 by rw [h8]; exact Int.ediv_eq_zero_of_lt hn.1 hn.2)
      have Hm4 := Lib.hid (show m / 256 ^ κ = 0 by rw [h8]; exact Int.ediv_eq_zero_of_lt hm.1 hm.2)
      have hn3 := Lib.hid hn
      have hm3 := Lib.hid hm
      have Hκ := Lib.hid hκ
      clear h8
      go_wp2_with fail
      go_meet
      case rel => exact ⟨κ, n, m, rfl, rfl, rfl, hb0, Hκ, hn3, hm3, Hn4, Hm4⟩
  case rest =>
    obtain ⟨κ, n', m', rfl, rfl, rfl, hb1, hκ, hn3, hm3, Hn4, Hm4⟩ := hcut
    clear hn hm hs hr1 hb0
    have hk1 : 1 ≤ (κ : Int) ∧ (κ : Int) ≤ 8 := by have := hκ.out; omega
    have hpn := Lib.hid (put_fit hκ.out.1 hκ.out.2 Hn4.out)
    have hpm := Lib.hid (put_fit hκ.out.1 hκ.out.2 Hm4.out)
    have htk := Lib.hid (take_put hκ.out.1 hκ.out.2 hn3.out.1 Hn4.out)
    have hlen := Lib.hid (le_length κ n')
    have hlem := Lib.hid (le_length κ m')
    go_wp2_with fail
    refine (put_any n' κ _ hn3.out (by omega)).mono ?_
    rw [hpn.out.1, hpn.out.2]
    rintro e w2 ⟨v1, rfl, ho1, hb2⟩
    go_wp2_with fail
    refine (put_any m' κ _ hm3.out (by omega)).mono ?_
    rw [hpm.out.1, hpm.out.2]
    rintro e w3 ⟨v2, rfl, ho2, hb3⟩
    go_wp2_with fail
    refine (take_any v1 (le κ n') κ _ (ho1.reads.below hb3) (by omega) (by rw [hlen.out]; omega)).mono ?_
    rw [htk.out]
    rintro e w4 ⟨v3, rfl, ho3, hb4⟩
    have c1 := conv_str (ho1.reads.below (below_then hb3 hb4))
    have c2 := conv_str (ho2.reads.below hb4)
    obtain ⟨A1, cc1, rfl, hcc1⟩ := ho1.reads.form
    obtain ⟨A3, cc3, rfl⟩ := ho3.bareform
    obtain ⟨Ab, cb, rfl, hcb⟩ := hv.form
    rw [hlen.out] at c1 ho1 hcc1 ⊢
    have hstr : ((strOfNums (le κ n')).toList == (strOfNums (le κ m')).toList) = (n' == m') := str_le hκ.out.2 hn3.out.1 hm3.out.1 Hn4.out Hm4.out
    have hbw := Lib.hid (below_then hb1 (below_then (below_then hb2 hb3) hb4))
    by_cases hkb : κ ≤ b.length
    · have hto := Lib.hid (take_ok hκ.out.1 hκ.out.2 hkb)
      have hpt := Lib.hid (put_take hκ.out.1 hκ.out.2 hkb hv.isB)
      have hnr := Lib.hid (numU_range (b.take κ))
      have hv4 := Lib.hid (hv.below hbw.out)
      clear ho1 ho2 ho3 hb1 hb2 hb3 hb4
      go_wp2_with fail
      refine (take_any _ b κ _ hv4.out (by omega) (by omega)).mono ?_
      rw [hto.out]
      rintro e w5 ⟨v5, rfl, ho5, hb5⟩
      clear c1 c2 hstr
      generalize numU (b.take κ) = nn at *
      go_upto_region 14 with fail
      have hb5' := Lib.hid (below_then hbw.out hb5)
      have Ho5 := Lib.hid (ho5.lower hbw.out.size)
      have hv5 := Lib.hid (hv.below hb5'.out)
      go_cut [19, 20] from 21 (fun s19 s20 wx => s20 = .int .i64 0 ∧ Hid (OB wx W.heap.size s19 (b.take κ)) ∧ Hid (OB wx W.heap.size v5 (b.drop κ)) ∧ Hid (Below W.heap.size W wx))
      case first =>
        go_wp2_with fail
        refine (put_any nn κ _ hnr.out (by omega)).mono ?_
        rw [hpt.out.1, hpt.out.2]
        rintro e w6 ⟨v6, rfl, ho6, hb6⟩
        go_wp2_with fail
        go_meet
        case rel => exact ⟨rfl, ho6.lower hb5'.out.size, Ho5.out.below hb6, below_then hb5'.out hb6⟩
      case rest =>
        obtain ⟨rfl, ho6, ho5', hb6'⟩ := hcut
        clear Ho5 hv5 hb5' hb5 ho5 hv4 hbw hnr hpt hto hpn hpm htk hlen hlem Hn4 Hm4 hn3 hm3
        go_upto_region 15 with fail
        obtain ⟨A19, k19, rfl, -⟩ := ho6.out.reads.form
        obtain ⟨A15, k15, rfl, -⟩ := ho5'.out.reads.form
        have e19 : (b.take κ).length = κ := by rw [List.length_take]; omega
        have e15 : (b.drop κ).length = b.length - κ := List.length_drop
        rw [e19] at ho6 ⊢
        rw [e15] at ho5' ⊢
        clear e19 e15
        have hbx := Lib.hid (RBs.two (t := 23) (c := 2) (heap_top wc.drew (.cells #[.slice A19 κ k19, .slice A15 (b.length - κ) k15] 23) wc.drew.heap.size rfl) (by decide) ((ho6.out.reads.below (below_drew (Below.refl _ _))).below (below_alloc (Below.refl _ _) _)) ((ho5'.out.reads.below (below_drew (Below.refl _ _))).below (below_alloc (Below.refl _ _) _)))
        have hbd := Lib.hid (below_drew hb6'.out)
        refine start_ (n := 17) (S := fun w' => RBy w' (.slice Ab b.length cb) b) (ds := []) #[false, false, false, false, false, false, false, false, false, false, false, false, false, false, false, false, false] (by kernel_rfl) rfl rfl (hv.below hbd.out) (fun hHeld => ?_); refine with_tabW tab15 bits15 (fun HT_ HW_ => ?_)
        generalize wc.drew = w44 at hbx hbd hHeld ⊢
        have k1 := conv_str (hv.below hbd.out)
        refine pure_ (i := 0) (N := some 113) (v := ?_) (a' := ?_) #[true, false, false, false, false, false, false, false, false, false, false, false, false, false, false, false, false] rfl rfl (any_of HT_.out (by kernel_rfl)) (fun _ _ _ h => h) (Or.inl ⟨by rfl, ?_⟩) ?_ ?_
        rotate_left
        · intro w'
          go_simp
          with_reducible rfl
        rotate_left
        · simp only [Act.put, List.setIfInBounds_toArray, List.set_cons_zero, List.set_cons_succ]
          rfl
        refine pure_ (i := 1) (N := some 114) (v := ?_) (a' := ?_) #[true, true, false, false, false, false, false, false, false, false, false, false, false, false, false, false, false] rfl rfl (any_of HT_.out (by kernel_rfl)) (fun _ _ _ h => h) (Or.inl ⟨by rfl, ?_⟩) ?_ ?_
        rotate_left
        · intro w'
          go_simp
          with_reducible rfl
        rotate_left
        · simp only [Act.put, List.setIfInBounds_toArray, List.set_cons_zero, List.set_cons_succ]
          rfl
        refine pure_ (i := 2) (N := some 115) (v := ?_) (a' := ?_) #[true, true, true, false, false, false, false, false, false, false, false, false, false, false, false, false, false] rfl rfl (any_of HT_.out (by kernel_rfl)) (fun _ _ _ h => h) (Or.inl ⟨by rfl, ?_⟩) ?_ ?_
        rotate_left
        · intro w'
          go_simp
          with_reducible rfl
        rotate_left
        · simp only [Act.put, List.setIfInBounds_toArray, List.set_cons_zero, List.set_cons_succ]
          rfl
        refine pure_ (i := 3) (N := some 116) (v := ?_) (a' := ?_) #[true, true, true, true, false, false, false, false, false, false, false, false, false, false, false, false, false] rfl rfl (any_of HT_.out (by kernel_rfl)) (fun _ _ _ h => h) (Or.inl ⟨by rfl, ?_⟩) ?_ ?_
        rotate_left
        · intro w'
          go_simp
          with_reducible rfl
        rotate_left
        · simp only [Act.put, List.setIfInBounds_toArray, List.set_cons_zero, List.set_cons_succ]
          rfl
        refine pure_ (i := 4) (N := some 117) (v := ?_) (a' := ?_) #[true, true, true, true, true, false, false, false, false, false, false, false, false, false, false, false, false] rfl rfl (any_of HT_.out (by kernel_rfl)) (fun _ _ _ h => h) (Or.inl ⟨by rfl, ?_⟩) ?_ ?_
        rotate_left
        · intro w'
          go_simp
          with_reducible rfl
        rotate_left
        · simp only [Act.put, List.setIfInBounds_toArray, List.set_cons_zero, List.set_cons_succ]
          rfl
        refine pure_ (i := 5) (N := some 118) (v := ?_) (a' := ?_) #[true, true, true, true, true, true, false, false, false, false, false, false, false, false, false, false, false] rfl rfl (any_of HT_.out (by kernel_rfl)) (fun _ _ _ h => h) (Or.inl ⟨by rfl, ?_⟩) ?_ ?_
        rotate_left
        · intro w'
          go_simp
          with_reducible rfl
        rotate_left
        · simp only [Act.put, List.setIfInBounds_toArray, List.set_cons_zero, List.set_cons_succ]
          rfl
        refine pure_ (i := 6) (N := some 119) (v := ?_) (a' := ?_) #[true, true, true, true, true, true, true, false, false, false, false, false, false, false, false, false, false] rfl rfl (any_of HT_.out (by kernel_rfl)) (fun _ _ _ h => h) (Or.inl ⟨by rfl, ?_⟩) ?_ ?_
        rotate_left
        · intro w'
          go_simp
          with_reducible rfl
        rotate_left
        · simp only [Act.put, List.setIfInBounds_toArray, List.set_cons_zero, List.set_cons_succ]
          rfl
        refine pure_ (i := 7) (N := some 120) (v := ?_) (a' := ?_) #[true, true, true, true, true, true, true, true, false, false, false, false, false, false, false, false, false] rfl rfl (any_of HT_.out (by kernel_rfl)) (fun _ _ _ h => h) (Or.inl ⟨by rfl, ?_⟩) ?_ ?_
        rotate_left
        · intro w'
          go_simp
          with_reducible rfl
        rotate_left
        · simp only [Act.put, List.setIfInBounds_toArray, List.set_cons_zero, List.set_cons_succ]
          rfl
        refine pure_ (i := 8) (N := some 121) (v := ?_) (a' := ?_) #[true, true, true, true, true, true, true, true, true, false, false, false, false, false, false, false, false] rfl rfl (any_of HT_.out (by kernel_rfl)) (fun _ _ _ h => h) (Or.inl ⟨by rfl, ?_⟩) ?_ ?_
        rotate_left
        · intro w'
          go_simp
          with_reducible rfl
        rotate_left
        · simp only [Act.put, List.setIfInBounds_toArray, List.set_cons_zero, List.set_cons_succ]
          rfl
        refine pure_ (i := 12) (N := some 125) (v := ?_) (a' := ?_) #[true, true, true, true, true, true, true, true, true, false, false, false, true, false, false, false, false] rfl rfl (any_of HT_.out (by kernel_rfl)) (fun _ _ _ h => h) (Or.inl ⟨by rfl, ?_⟩) ?_ ?_
        rotate_left
        · intro w'
          go_simp
          with_reducible rfl
        rotate_left
        · simp only [Act.put, List.setIfInBounds_toArray, List.set_cons_zero, List.set_cons_succ]
          rfl
        refine take_ (i := 13) (N := some 126) (v := ?_) (a' := ?_) #[true, true, true, true, true, true, true, true, true, false, false, false, true, true, false, false, false] rfl rfl (take_of HT_.out (by kernel_rfl)) (fun _ _ _ h => h) (Or.inl ⟨by rfl, ?_⟩) hHeld ?_ ?_
        rotate_left
        · intro w' hw'
          have k9 := conv_str hw'
          go_simp
          with_reducible rfl
        rotate_left
        · simp only [Act.put, List.setIfInBounds_toArray, List.set_cons_zero, List.set_cons_succ]
          rfl
        refine one_ (i := 9) (N := some 122) #[true, true, true, true, true, true, true, true, true, true, false, false, true, true, false, false, false] rfl rfl (one_of HT_.out (by kernel_rfl)) (by decide) (fun K hK => ?_)
        refine value_ (w1 := ?_) (v := ?_) (by rfl) rfl ?_ ?_
        rotate_left 2
        · go_simp
          constructor
          · rfl
          · rfl
        refine hK.out _ _ (hHeld.below (below_alloc (Below.refl _ _) _)) (fun hHeld2 => ?_)
        clear hK K
        refine norm_ (a' := ?_) ?_ ?_
        rotate_left
        · show Act.put _ (some 122) _ = _
          simp only [Act.put, List.setIfInBounds_toArray, List.set_cons_zero, List.set_cons_succ]
          rfl
        refine one_ (i := 10) (N := some 123) #[true, true, true, true, true, true, true, true, true, true, true, false, true, true, false, false, false] rfl rfl (one_of HT_.out (by kernel_rfl)) (by decide) (fun K hK => ?_)
        refine call_ 28 #[.slice (some ⟨w44.heap.size, 0, none⟩) 2 2] (by rfl) rfl (by go_simp) ?_
        refine (ojoin_any _ [b.take κ, b.drop κ] _ hbx.out (by simp; omega)).mono ?_
        rintro e w50 ⟨v50, rfl, ho50, hb50⟩
        refine ⟨_, rfl, ?_⟩
        have c50 := conv_str ho50.reads
        rw [show [b.take κ, b.drop κ].flatten = b by simp] at c50
        refine hK.out _ _ (hHeld2.below hb50) (fun hHeld3 => ?_)
        clear hK K
        refine norm_ (a' := ?_) ?_ ?_
        rotate_left
        · show Act.put _ (some 123) _ = _
          simp only [Act.put, List.setIfInBounds_toArray, List.set_cons_zero, List.set_cons_succ]
          rfl
        refine one_ (i := 11) (N := some 124) #[true, true, true, true, true, true, true, true, true, true, true, true, true, true, false, false, false] rfl rfl (one_of HT_.out (by kernel_rfl)) (by decide) (fun K hK => ?_)
        refine value_ (w1 := ?_) (v := ?_) (by rfl) rfl ?_ ?_
        rotate_left 2
        · go_simp
          constructor
          · rfl
          · rfl
        refine hK.out _ _ hHeld3 (fun hHeld4 => ?_)
        clear hK K
        refine norm_ (a' := ?_) ?_ ?_
        rotate_left
        · show Act.put _ (some 124) _ = _
          simp only [Act.put, List.setIfInBounds_toArray, List.set_cons_zero, List.set_cons_succ]
          rfl
        refine pure_ (i := 14) (N := some 127) (v := ?_) (a' := ?_) #[true, true, true, true, true, true, true, true, true, true, true, true, true, true, true, false, false] rfl rfl (any_of HT_.out (by kernel_rfl)) (fun _ _ _ h => h) (Or.inl ⟨by rfl, ?_⟩) ?_ ?_
        rotate_left
        · intro w'
          go_simp
          with_reducible rfl
        rotate_left
        · simp only [Act.put, List.setIfInBounds_toArray, List.set_cons_zero, List.set_cons_succ]
          rfl
        refine pure_ (i := 15) (N := some 128) (v := ?_) (a' := ?_) #[true, true, true, true, true, true, true, true, true, true, true, true, true, true, true, true, false] rfl rfl (any_of HT_.out (by kernel_rfl)) (fun _ _ _ h => h) (Or.inl ⟨by rfl, ?_⟩) ?_ ?_
        rotate_left
        · intro w'
          go_simp
          with_reducible rfl
        rotate_left
        · simp only [Act.put, List.setIfInBounds_toArray, List.set_cons_zero, List.set_cons_succ]
          rfl
        refine pure_ (i := 16) (N := some 8) (v := ?_) (a' := ?_) #[true, true, true, true, true, true, true, true, true, true, true, true, true, true, true, true, true] rfl rfl (any_of HT_.out (by kernel_rfl)) (fun _ _ _ h => h) (Or.inl ⟨by rfl, ?_⟩) ?_ ?_
        rotate_left
        · intro w'
          go_simp
          with_reducible rfl
        rotate_left
        · simp only [Act.put, List.setIfInBounds_toArray, List.set_cons_zero, List.set_cons_succ]
          rfl
        refine done_ (done_of HT_.out (by kernel_rfl)) ?_
        try go_wp2
        go_ret
        exact ⟨by simp, below_then hbd.out (below_then (below_alloc (Below.refl _ _) _) hb50)⟩
    · go_wp2_with fail
      go_ret
      exact ⟨rfl, hbw.out⟩
end Go.Proofs.Ytblfmofhfbbmdaa
