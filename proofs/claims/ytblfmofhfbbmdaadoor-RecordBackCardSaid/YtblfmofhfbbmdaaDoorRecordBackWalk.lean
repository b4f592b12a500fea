/- The walk of the law RecordBack: it returns true, and nothing that was there has turned. -/
import Derived.Test.YtblfmofhfbbmdaaDoorRecC
import Derived.Test.YtblfmofhfbbmdaaDoorRecB
set_option linter.unusedVariables false
set_option linter.unusedSimpArgs false
namespace Go.Proofs.YtblfmofhfbbmdaaDoor
open Go.RowKit Crc Go.Proofs.YtblfmofhfbbmdaaDoorW.PrintWords Go.Proofs.YtblfmofhfbbmdaaDoorW.PrintLast

structure S14 (ga gb : Nat) (r s : Rec) (w : World) : Prop where
  a : At 71 w ga r
  b : At 71 w gb s
theorem S14.below {ga gb : Nat} {r s : Rec} {w w' : World} (h : S14 ga gb r s w) (hb : Below w.heap.size w w') : S14 ga gb r s w' := ⟨h.a.below hb, h.b.below hb⟩
structure S147 (gz gx gy : Nat) (x y : Rec) (u v : Value) (L1 L2 : List Int) (w : World) : Prop where
  z : At 66 w gz x
  x : At 66 w gx x
  y : At 66 w gy y
  m : RBy w u L1
  n : RBy w v L2
theorem S147.below {gz gx gy : Nat} {x y : Rec} {u v : Value} {L1 L2 : List Int} {w w' : World} (h : S147 gz gx gy x y u v L1 L2 w) (hb : Below w.heap.size w w') : S147 gz gx gy x y u v L1 L2 w' :=
  ⟨h.z.below hb, h.x.below hb, h.y.below hb, h.m.below hb, h.n.below hb⟩
def T14_3 : Bool × List (List Nat × List Nat) := (true, [([], []), ([0], [0]), ([], []), ([2, 1], [2]), ([], []), ([], []), ([4, 1, 3, 0, 1, 4, 5], [1, 4]), ([5, 3, 6, 0, 1, 2, 3, 4, 5, 6], [3, 5])])
def B14_3 : List Nat := [0, 1, 0, 7, 0, 0, 63, 127]
theorem tab14_3 : rtab .any (opsOf Tryd.f14 3) = T14_3 := by kernel_rfl
theorem bits14_3 : waitsOk T14_3.2 B14_3 = true := by kernel_rfl
def T14_7 : Bool × List (List Nat × List Nat) := (true, [([], []), ([0], [0]), ([1], [1]), ([2], [2]), ([3, 2], [2, 3]), ([2, 4], [2, 4]), ([5, 2], [5]), ([6], [6]), ([7, 6], [6, 7]), ([6, 8], [6, 8]), ([9, 6], [9]), ([10], [10]), ([10], [10]), ([11, 12, 10], [10, 11, 12]), ([10, 13], [10, 13]), ([14, 10], [14]), ([15], [15]), ([16, 15], [15, 16]), ([17, 15], [15, 17]), ([15, 18], [15, 18]), ([19, 15], [19]), ([20], [20]), ([21, 20], [20, 21]), ([22, 20], [20, 22]), ([20, 23], [20, 23]), ([24, 20], [24]), ([25], [25]), ([26, 25], [25, 26]), ([25], [25]), ([28, 25], [25, 28]), ([27, 29, 25], [25, 27, 29]), ([25], [25]), ([25], [25]), ([31, 32, 25], [25, 31, 32]), ([30, 33, 25], [25, 30, 33]), ([25, 34], [25, 34])])
def B14_7 : List Nat := [0, 1, 3, 7, 15, 31, 63, 127, 255, 511, 1023, 2047, 2047, 8191, 16383, 32767, 65535, 131071, 262143, 524287, 1048575, 2097151, 4194303, 8388607, 16777215, 33554431, 67108863, 134217727, 67108863, 335544319, 1073741823, 67108863, 67108863, 6509559807, 17179869183, 34359738367]
theorem tab14_7 : rtab .any (opsOf Tryd.f14 7) = T14_7 := by kernel_rfl
theorem bits14_7 : waitsOk T14_7.2 B14_7 = true := by kernel_rfl

set_option maxRecDepth 100000 in
set_option maxHeartbeats 8000000 in
theorem recordBack_rec (r s : Rec) (at1 turn : Int) (w : World) (hr : r.ok) (hs : s.ok) (hat : -9223372036854775808 ≤ at1 ∧ at1 ≤ 9223372036854775807) (htu : 0 ≤ turn ∧ turn < 4294967296) (ht : Tab w) :
    Calls Tryd.prog 14 #[.agg r.cells, .agg s.cells, .int .i64 at1, .int .u32 turn] w fun e w' => e = .returned (.bool true) ∧ Below w.heap.size w w' := by
  have Ht := Lib.hid ht
  have HA := Lib.hid ((At.new 71 w r).below (below_alloc (Below.refl _ _) (.cells s.cells 71)))
  have hz := At.new 71 (w.alloc (.cells r.cells 71)) s
  rw [World.size_alloc] at hz
  have HB := Lib.hid hz
  have hb0 := Lib.hid (below_alloc (below_alloc (Below.refl w.heap.size w) (.cells r.cells 71)) (.cells s.cells 71))
  clear hz ht
  go_enter Tryd.func14, Tryd.ntmps14
  go_wp2_with fail
  refine (fixed6_any _ (Ht.out.below hb0.out)).mono ?_
  rintro e w1 ⟨rfl, hb1⟩
  have hS0 : S14 w.heap.size (w.heap.size + 1) r s w1.drew := (S14.mk (HA.out.below hb1) (HB.out.below hb1)).below (below_drew (Below.refl _ _))
  have hB := below_drew (below_then hb0.out hb1)
  clear hb1 HA HB hb0
  go_upto_region 3 with fail
  go_cut [9, 10] from 11 (fun s9 s10 wx => ∃ (gx gy : Nat) (x y : Rec), s9 = .pointer (some ⟨gx, 0, none⟩) ∧ s10 = .pointer (some ⟨gy, 0, none⟩) ∧ x.ok ∧ y.ok ∧ okRec x = true ∧ okRec y = true ∧ Hid (At 66 wx gx x) ∧ Hid (At 66 wx gy y) ∧ Hid (Below w.heap.size w wx))
  case first =>
    refine start_ (n := 8) (S := S14 w.heap.size (w.heap.size + 1) r s) (ds := [6, 7]) #[false, false, false, false, false, false, false, false] (by kernel_rfl) rfl rfl (hS0) (fun hHeld => ?_); refine with_tabW tab14_3 bits14_3 (fun HT_ HW_ => ?_)
    clear hS0
    generalize w1.drew = w3 at hB hHeld ⊢
    refine take_ (i := 0) (N := (some 23)) (v := .agg r.cells) #[true, false, false, false, false, false, false, false] rfl rfl (take_of HT_.out (by kernel_rfl)) (fun _ _ _ h => h) (Or.inl ⟨by rfl, fun w' hw' => ex_load (hw'.a.load71 hr.n) rfl rfl⟩) hHeld rfl ?_
    refine norm_ (a' := ?_) ?_ ?_
    rotate_left
    · show Act.put _ (some 23) _ = _
      simp only [Act.put, List.setIfInBounds_toArray, List.set_cons_zero, List.set_cons_succ]
      rfl
    refine take_ (i := 2) (N := (some 25)) (v := .agg s.cells) #[true, false, true, false, false, false, false, false] rfl rfl (take_of HT_.out (by kernel_rfl)) (fun _ _ _ h => h) (Or.inl ⟨by rfl, fun w' hw' => ex_load (hw'.b.load71 hs.n) rfl rfl⟩) hHeld rfl ?_
    refine norm_ (a' := ?_) ?_ ?_
    rotate_left
    · show Act.put _ (some 25) _ = _
      simp only [Act.put, List.setIfInBounds_toArray, List.set_cons_zero, List.set_cons_succ]
      rfl
    refine three_ (i := 1) (j := 4) (k := 5) (Ni := (some 24)) (Nj := (some 9)) (Nk := (some 10)) #[true, true, true, false, false, false, false, false] #[true, false, true, false, true, false, false, false] #[true, false, true, false, false, true, false, false] rfl rfl rfl rfl rfl rfl (three_of HT_.out (by kernel_rfl)) (by decide) (by decide) (by decide) (fun K hK => ?_) (fun K hK => ?_) (fun K hK => ?_)
    · skip
      refine call_ 46 #[.agg r.cells] (by rfl) rfl (by go_simp) ?_
      refine (right_any r _ hr).mono ?_
      rintro e wA ⟨x, rfl, hxo, hxk, hb⟩
      replace hB := below_then hB hb
      refine ⟨_, rfl, ?_⟩
      refine hK.out _ _ (hHeld.below hb) (fun hHeld => ?_)
      clear hK K
      refine norm_ (a' := ?_) ?_ ?_
      rotate_left
      · show Act.put _ (some 24) _ = _
        simp only [Act.put, List.setIfInBounds_toArray, List.set_cons_zero, List.set_cons_succ]
        rfl
      clear hb
      refine three_ (i := 3) (j := 4) (k := 5) (Ni := (some 26)) (Nj := (some 9)) (Nk := (some 10)) #[true, true, true, true, false, false, false, false] #[true, true, true, false, true, false, false, false] #[true, true, true, false, false, true, false, false] rfl rfl rfl rfl rfl rfl (three_of HT_.out (by kernel_rfl)) (by decide) (by decide) (by decide) (fun K hK => ?_) (fun K hK => ?_) (fun K hK => ?_)
      · skip
        refine call_ 46 #[.agg s.cells] (by rfl) rfl (by go_simp) ?_
        refine (right_any s _ hs).mono ?_
        rintro e wB ⟨y, rfl, hyo, hyk, hb⟩
        replace hB := below_then hB hb
        refine ⟨_, rfl, ?_⟩
        refine hK.out _ _ (hHeld.below hb) (fun hHeld => ?_)
        clear hK K
        refine norm_ (a' := ?_) ?_ ?_
        rotate_left
        · show Act.put _ (some 26) _ = _
          simp only [Act.put, List.setIfInBounds_toArray, List.set_cons_zero, List.set_cons_succ]
          rfl
        clear hb
        refine two_ (i := 4) (j := 5) (Ni := (some 9)) (Nj := (some 10)) #[true, true, true, true, true, false, false, false] #[true, true, true, true, false, true, false, false] rfl rfl rfl rfl (two_of HT_.out (by kernel_rfl)) (by decide) (by decide) (fun K hK => ?_) (fun K hK => ?_)
        · skip
          have hz9 := At.new 66 (wB) Rec.zero
          have hle_z9 := hB.size
          replace hB := below_alloc hB (.cells Rec.zero.cells 66)
          refine value_ (by rfl) rfl (ex_alloc (run_alloc66 _) rfl) ?_
          refine hK.out _ _ (hHeld.below (below_alloc (Below.refl _ _) (.cells Rec.zero.cells 66))) (fun hHeld => ?_)
          clear hK K
          refine norm_ (a' := ?_) ?_ ?_
          rotate_left
          · show Act.put _ (some 9) _ = _
            simp only [Act.put, List.setIfInBounds_toArray, List.set_cons_zero, List.set_cons_succ]
            rfl
          refine one_ (i := 5) (N := (some 10)) #[true, true, true, true, true, true, false, false] rfl rfl (one_of HT_.out (by kernel_rfl)) (by decide) (fun K hK => ?_)
          have hz10 := At.new 66 ((wB).alloc (.cells Rec.zero.cells 66)) Rec.zero
          have hlt := hz9.lt
          replace hz9 := At.below hz9 (below_alloc (Below.refl _ _) (.cells Rec.zero.cells 66))
          have hle_z10 := hB.size
          replace hB := below_alloc hB (.cells Rec.zero.cells 66)
          refine value_ (by rfl) rfl (ex_alloc (run_alloc66 _) rfl) ?_
          refine hK.out _ _ (hHeld.below (below_alloc (Below.refl _ _) (.cells Rec.zero.cells 66))) (fun hHeld => ?_)
          clear hK K
          refine norm_ (a' := ?_) ?_ ?_
          rotate_left
          · show Act.put _ (some 10) _ = _
            simp only [Act.put, List.setIfInBounds_toArray, List.set_cons_zero, List.set_cons_succ]
            rfl
          refine last_ (i := 6) (N := none) #[true, true, true, true, true, true, true, false] rfl rfl (one_of HT_.out (by kernel_rfl)) (by decide) (fun K hK => ?_)
          have hxs := hz9.set (s := x)
          have hxr := hle_z9
          have hBn := Below.setRow' hB (show w.heap.size ≤ (wB).heap.size by omega) x.cells
          refine skip_ (by rfl) rfl (ex_store (hz9.store66 zero_n (s := x) hxo.n) rfl rfl rfl) ?_
          refine hK.out _ _ ?_
          clear hK K
          have hoth := At.set_other (cs := x.cells) hz10 (Nat.ne_of_gt hlt)
          replace hz10 := hoth
          clear hoth
          replace hB := hBn
          clear hBn
          replace hz9 := hxs
          refine last_ (i := 7) (N := none) #[true, true, true, true, true, true, true, true] rfl rfl (one_of HT_.out (by kernel_rfl)) (by decide) (fun K hK => ?_)
          have hys := hz10.set (s := y)
          have hyr := hle_z10
          have hBn := Below.setRow' hB (show w.heap.size ≤ ((wB).alloc (.cells Rec.zero.cells 66)).heap.size by omega) y.cells
          refine skip_ (by rfl) rfl (ex_store (hz10.store66 zero_n (s := y) hyo.n) rfl rfl rfl) ?_
          refine hK.out _ _ ?_
          clear hK K
          have hoth := At.set_other (cs := y.cells) hz9 (Nat.ne_of_lt hlt)
          replace hz9 := hoth
          clear hoth
          replace hB := hBn
          clear hBn
          replace hz10 := hys
          refine done_ (done_of HT_.out (by kernel_rfl)) ?_
          clear HT_ HW_
          have Hz9 := Lib.hid hz9
          have Hz10 := Lib.hid hz10
          have HBB := Lib.hid hB
          clear hz9 hz10 hB
          go_wp2_with fail
          go_meet
          case rel => exact ⟨_, _, x, y, rfl, rfl, hxo, hyo, hxk, hyk, Hz9, Hz10, HBB⟩
        · skip
          have hz10 := At.new 66 (wB) Rec.zero
          have hle_z10 := hB.size
          replace hB := below_alloc hB (.cells Rec.zero.cells 66)
          refine value_ (by rfl) rfl (ex_alloc (run_alloc66 _) rfl) ?_
          refine hK.out _ _ (hHeld.below (below_alloc (Below.refl _ _) (.cells Rec.zero.cells 66))) (fun hHeld => ?_)
          clear hK K
          refine norm_ (a' := ?_) ?_ ?_
          rotate_left
          · show Act.put _ (some 10) _ = _
            simp only [Act.put, List.setIfInBounds_toArray, List.set_cons_zero, List.set_cons_succ]
            rfl
          refine one_ (i := 4) (N := (some 9)) #[true, true, true, true, true, true, false, false] rfl rfl (one_of HT_.out (by kernel_rfl)) (by decide) (fun K hK => ?_)
          have hz9 := At.new 66 ((wB).alloc (.cells Rec.zero.cells 66)) Rec.zero
          have hlt := hz10.lt
          replace hz10 := At.below hz10 (below_alloc (Below.refl _ _) (.cells Rec.zero.cells 66))
          have hle_z9 := hB.size
          replace hB := below_alloc hB (.cells Rec.zero.cells 66)
          refine value_ (by rfl) rfl (ex_alloc (run_alloc66 _) rfl) ?_
          refine hK.out _ _ (hHeld.below (below_alloc (Below.refl _ _) (.cells Rec.zero.cells 66))) (fun hHeld => ?_)
          clear hK K
          refine norm_ (a' := ?_) ?_ ?_
          rotate_left
          · show Act.put _ (some 9) _ = _
            simp only [Act.put, List.setIfInBounds_toArray, List.set_cons_zero, List.set_cons_succ]
            rfl
          refine last_ (i := 6) (N := none) #[true, true, true, true, true, true, true, false] rfl rfl (one_of HT_.out (by kernel_rfl)) (by decide) (fun K hK => ?_)
          have hxs := hz9.set (s := x)
          have hxr := hle_z9
          have hBn := Below.setRow' hB (show w.heap.size ≤ ((wB).alloc (.cells Rec.zero.cells 66)).heap.size by omega) x.cells
          refine skip_ (by rfl) rfl (ex_store (hz9.store66 zero_n (s := x) hxo.n) rfl rfl rfl) ?_
          refine hK.out _ _ ?_
          clear hK K
          have hoth := At.set_other (cs := x.cells) hz10 (Nat.ne_of_lt hlt)
          replace hz10 := hoth
          clear hoth
          replace hB := hBn
          clear hBn
          replace hz9 := hxs
          refine last_ (i := 7) (N := none) #[true, true, true, true, true, true, true, true] rfl rfl (one_of HT_.out (by kernel_rfl)) (by decide) (fun K hK => ?_)
          have hys := hz10.set (s := y)
          have hyr := hle_z10
          have hBn := Below.setRow' hB (show w.heap.size ≤ (wB).heap.size by omega) y.cells
          refine skip_ (by rfl) rfl (ex_store (hz10.store66 zero_n (s := y) hyo.n) rfl rfl rfl) ?_
          refine hK.out _ _ ?_
          clear hK K
          have hoth := At.set_other (cs := y.cells) hz9 (Nat.ne_of_gt hlt)
          replace hz9 := hoth
          clear hoth
          replace hB := hBn
          clear hBn
          replace hz10 := hys
          refine done_ (done_of HT_.out (by kernel_rfl)) ?_
          clear HT_ HW_
          have Hz9 := Lib.hid hz9
          have Hz10 := Lib.hid hz10
          have HBB := Lib.hid hB
          clear hz9 hz10 hB
          go_wp2_with fail
          go_meet
          case rel => exact ⟨_, _, x, y, rfl, rfl, hxo, hyo, hxk, hyk, Hz9, Hz10, HBB⟩
      · skip
        have hz9 := At.new 66 (wA) Rec.zero
        have hle_z9 := hB.size
        replace hB := below_alloc hB (.cells Rec.zero.cells 66)
        refine value_ (by rfl) rfl (ex_alloc (run_alloc66 _) rfl) ?_
        refine hK.out _ _ (hHeld.below (below_alloc (Below.refl _ _) (.cells Rec.zero.cells 66))) (fun hHeld => ?_)
        clear hK K
        refine norm_ (a' := ?_) ?_ ?_
        rotate_left
        · show Act.put _ (some 9) _ = _
          simp only [Act.put, List.setIfInBounds_toArray, List.set_cons_zero, List.set_cons_succ]
          rfl
        refine two_ (i := 3) (j := 5) (Ni := (some 26)) (Nj := (some 10)) #[true, true, true, true, true, false, false, false] #[true, true, true, false, true, true, false, false] rfl rfl rfl rfl (two_of HT_.out (by kernel_rfl)) (by decide) (by decide) (fun K hK => ?_) (fun K hK => ?_)
        · skip
          refine call_ 46 #[.agg s.cells] (by rfl) rfl (by go_simp) ?_
          refine (right_any s _ hs).mono ?_
          rintro e wB ⟨y, rfl, hyo, hyk, hb⟩
          replace hB := below_then hB hb
          replace hz9 := At.below hz9 hb
          refine ⟨_, rfl, ?_⟩
          refine hK.out _ _ (hHeld.below hb) (fun hHeld => ?_)
          clear hK K
          refine norm_ (a' := ?_) ?_ ?_
          rotate_left
          · show Act.put _ (some 26) _ = _
            simp only [Act.put, List.setIfInBounds_toArray, List.set_cons_zero, List.set_cons_succ]
            rfl
          clear hb
          refine one_ (i := 5) (N := (some 10)) #[true, true, true, true, true, true, false, false] rfl rfl (one_of HT_.out (by kernel_rfl)) (by decide) (fun K hK => ?_)
          have hz10 := At.new 66 (wB) Rec.zero
          have hlt := hz9.lt
          replace hz9 := At.below hz9 (below_alloc (Below.refl _ _) (.cells Rec.zero.cells 66))
          have hle_z10 := hB.size
          replace hB := below_alloc hB (.cells Rec.zero.cells 66)
          refine value_ (by rfl) rfl (ex_alloc (run_alloc66 _) rfl) ?_
          refine hK.out _ _ (hHeld.below (below_alloc (Below.refl _ _) (.cells Rec.zero.cells 66))) (fun hHeld => ?_)
          clear hK K
          refine norm_ (a' := ?_) ?_ ?_
          rotate_left
          · show Act.put _ (some 10) _ = _
            simp only [Act.put, List.setIfInBounds_toArray, List.set_cons_zero, List.set_cons_succ]
            rfl
          refine last_ (i := 6) (N := none) #[true, true, true, true, true, true, true, false] rfl rfl (one_of HT_.out (by kernel_rfl)) (by decide) (fun K hK => ?_)
          have hxs := hz9.set (s := x)
          have hxr := hle_z9
          have hBn := Below.setRow' hB (show w.heap.size ≤ (wA).heap.size by omega) x.cells
          refine skip_ (by rfl) rfl (ex_store (hz9.store66 zero_n (s := x) hxo.n) rfl rfl rfl) ?_
          refine hK.out _ _ ?_
          clear hK K
          have hoth := At.set_other (cs := x.cells) hz10 (Nat.ne_of_gt hlt)
          replace hz10 := hoth
          clear hoth
          replace hB := hBn
          clear hBn
          replace hz9 := hxs
          refine last_ (i := 7) (N := none) #[true, true, true, true, true, true, true, true] rfl rfl (one_of HT_.out (by kernel_rfl)) (by decide) (fun K hK => ?_)
          have hys := hz10.set (s := y)
          have hyr := hle_z10
          have hBn := Below.setRow' hB (show w.heap.size ≤ (wB).heap.size by omega) y.cells
          refine skip_ (by rfl) rfl (ex_store (hz10.store66 zero_n (s := y) hyo.n) rfl rfl rfl) ?_
          refine hK.out _ _ ?_
          clear hK K
          have hoth := At.set_other (cs := y.cells) hz9 (Nat.ne_of_lt hlt)
          replace hz9 := hoth
          clear hoth
          replace hB := hBn
          clear hBn
          replace hz10 := hys
          refine done_ (done_of HT_.out (by kernel_rfl)) ?_
          clear HT_ HW_
          have Hz9 := Lib.hid hz9
          have Hz10 := Lib.hid hz10
          have HBB := Lib.hid hB
          clear hz9 hz10 hB
          go_wp2_with fail
          go_meet
          case rel => exact ⟨_, _, x, y, rfl, rfl, hxo, hyo, hxk, hyk, Hz9, Hz10, HBB⟩
        · skip
          have hz10 := At.new 66 ((wA).alloc (.cells Rec.zero.cells 66)) Rec.zero
          have hlt := hz9.lt
          replace hz9 := At.below hz9 (below_alloc (Below.refl _ _) (.cells Rec.zero.cells 66))
          have hle_z10 := hB.size
          replace hB := below_alloc hB (.cells Rec.zero.cells 66)
          refine value_ (by rfl) rfl (ex_alloc (run_alloc66 _) rfl) ?_
          refine hK.out _ _ (hHeld.below (below_alloc (Below.refl _ _) (.cells Rec.zero.cells 66))) (fun hHeld => ?_)
          clear hK K
          refine norm_ (a' := ?_) ?_ ?_
          rotate_left
          · show Act.put _ (some 10) _ = _
            simp only [Act.put, List.setIfInBounds_toArray, List.set_cons_zero, List.set_cons_succ]
            rfl
          refine one_ (i := 3) (N := (some 26)) #[true, true, true, true, true, true, false, false] rfl rfl (one_of HT_.out (by kernel_rfl)) (by decide) (fun K hK => ?_)
          refine call_ 46 #[.agg s.cells] (by rfl) rfl (by go_simp) ?_
          refine (right_any s _ hs).mono ?_
          rintro e wB ⟨y, rfl, hyo, hyk, hb⟩
          replace hB := below_then hB hb
          replace hz9 := At.below hz9 hb
          replace hz10 := At.below hz10 hb
          refine ⟨_, rfl, ?_⟩
          refine hK.out _ _ (hHeld.below hb) (fun hHeld => ?_)
          clear hK K
          refine norm_ (a' := ?_) ?_ ?_
          rotate_left
          · show Act.put _ (some 26) _ = _
            simp only [Act.put, List.setIfInBounds_toArray, List.set_cons_zero, List.set_cons_succ]
            rfl
          clear hb
          refine last_ (i := 6) (N := none) #[true, true, true, true, true, true, true, false] rfl rfl (one_of HT_.out (by kernel_rfl)) (by decide) (fun K hK => ?_)
          have hxs := hz9.set (s := x)
          have hxr := hle_z9
          have hBn := Below.setRow' hB (show w.heap.size ≤ (wA).heap.size by omega) x.cells
          refine skip_ (by rfl) rfl (ex_store (hz9.store66 zero_n (s := x) hxo.n) rfl rfl rfl) ?_
          refine hK.out _ _ ?_
          clear hK K
          have hoth := At.set_other (cs := x.cells) hz10 (Nat.ne_of_gt hlt)
          replace hz10 := hoth
          clear hoth
          replace hB := hBn
          clear hBn
          replace hz9 := hxs
          refine last_ (i := 7) (N := none) #[true, true, true, true, true, true, true, true] rfl rfl (one_of HT_.out (by kernel_rfl)) (by decide) (fun K hK => ?_)
          have hys := hz10.set (s := y)
          have hyr := hle_z10
          have hBn := Below.setRow' hB (show w.heap.size ≤ ((wA).alloc (.cells Rec.zero.cells 66)).heap.size by omega) y.cells
          refine skip_ (by rfl) rfl (ex_store (hz10.store66 zero_n (s := y) hyo.n) rfl rfl rfl) ?_
          refine hK.out _ _ ?_
          clear hK K
          have hoth := At.set_other (cs := y.cells) hz9 (Nat.ne_of_lt hlt)
          replace hz9 := hoth
          clear hoth
          replace hB := hBn
          clear hBn
          replace hz10 := hys
          refine done_ (done_of HT_.out (by kernel_rfl)) ?_
          clear HT_ HW_
          have Hz9 := Lib.hid hz9
          have Hz10 := Lib.hid hz10
          have HBB := Lib.hid hB
          clear hz9 hz10 hB
          go_wp2_with fail
          go_meet
          case rel => exact ⟨_, _, x, y, rfl, rfl, hxo, hyo, hxk, hyk, Hz9, Hz10, HBB⟩
      · skip
        have hz10 := At.new 66 (wA) Rec.zero
        have hle_z10 := hB.size
        replace hB := below_alloc hB (.cells Rec.zero.cells 66)
        refine value_ (by rfl) rfl (ex_alloc (run_alloc66 _) rfl) ?_
        refine hK.out _ _ (hHeld.below (below_alloc (Below.refl _ _) (.cells Rec.zero.cells 66))) (fun hHeld => ?_)
        clear hK K
        refine norm_ (a' := ?_) ?_ ?_
        rotate_left
        · show Act.put _ (some 10) _ = _
          simp only [Act.put, List.setIfInBounds_toArray, List.set_cons_zero, List.set_cons_succ]
          rfl
        refine two_ (i := 3) (j := 4) (Ni := (some 26)) (Nj := (some 9)) #[true, true, true, true, false, true, false, false] #[true, true, true, false, true, true, false, false] rfl rfl rfl rfl (two_of HT_.out (by kernel_rfl)) (by decide) (by decide) (fun K hK => ?_) (fun K hK => ?_)
        · skip
          refine call_ 46 #[.agg s.cells] (by rfl) rfl (by go_simp) ?_
          refine (right_any s _ hs).mono ?_
          rintro e wB ⟨y, rfl, hyo, hyk, hb⟩
          replace hB := below_then hB hb
          replace hz10 := At.below hz10 hb
          refine ⟨_, rfl, ?_⟩
          refine hK.out _ _ (hHeld.below hb) (fun hHeld => ?_)
          clear hK K
          refine norm_ (a' := ?_) ?_ ?_
          rotate_left
          · show Act.put _ (some 26) _ = _
            simp only [Act.put, List.setIfInBounds_toArray, List.set_cons_zero, List.set_cons_succ]
            rfl
          clear hb
          refine one_ (i := 4) (N := (some 9)) #[true, true, true, true, true, true, false, false] rfl rfl (one_of HT_.out (by kernel_rfl)) (by decide) (fun K hK => ?_)
          have hz9 := At.new 66 (wB) Rec.zero
          have hlt := hz10.lt
          replace hz10 := At.below hz10 (below_alloc (Below.refl _ _) (.cells Rec.zero.cells 66))
          have hle_z9 := hB.size
          replace hB := below_alloc hB (.cells Rec.zero.cells 66)
          refine value_ (by rfl) rfl (ex_alloc (run_alloc66 _) rfl) ?_
          refine hK.out _ _ (hHeld.below (below_alloc (Below.refl _ _) (.cells Rec.zero.cells 66))) (fun hHeld => ?_)
          clear hK K
          refine norm_ (a' := ?_) ?_ ?_
          rotate_left
          · show Act.put _ (some 9) _ = _
            simp only [Act.put, List.setIfInBounds_toArray, List.set_cons_zero, List.set_cons_succ]
            rfl
          refine last_ (i := 6) (N := none) #[true, true, true, true, true, true, true, false] rfl rfl (one_of HT_.out (by kernel_rfl)) (by decide) (fun K hK => ?_)
          have hxs := hz9.set (s := x)
          have hxr := hle_z9
          have hBn := Below.setRow' hB (show w.heap.size ≤ (wB).heap.size by omega) x.cells
          refine skip_ (by rfl) rfl (ex_store (hz9.store66 zero_n (s := x) hxo.n) rfl rfl rfl) ?_
          refine hK.out _ _ ?_
          clear hK K
          have hoth := At.set_other (cs := x.cells) hz10 (Nat.ne_of_lt hlt)
          replace hz10 := hoth
          clear hoth
          replace hB := hBn
          clear hBn
          replace hz9 := hxs
          refine last_ (i := 7) (N := none) #[true, true, true, true, true, true, true, true] rfl rfl (one_of HT_.out (by kernel_rfl)) (by decide) (fun K hK => ?_)
          have hys := hz10.set (s := y)
          have hyr := hle_z10
          have hBn := Below.setRow' hB (show w.heap.size ≤ (wA).heap.size by omega) y.cells
          refine skip_ (by rfl) rfl (ex_store (hz10.store66 zero_n (s := y) hyo.n) rfl rfl rfl) ?_
          refine hK.out _ _ ?_
          clear hK K
          have hoth := At.set_other (cs := y.cells) hz9 (Nat.ne_of_gt hlt)
          replace hz9 := hoth
          clear hoth
          replace hB := hBn
          clear hBn
          replace hz10 := hys
          refine done_ (done_of HT_.out (by kernel_rfl)) ?_
          clear HT_ HW_
          have Hz9 := Lib.hid hz9
          have Hz10 := Lib.hid hz10
          have HBB := Lib.hid hB
          clear hz9 hz10 hB
          go_wp2_with fail
          go_meet
          case rel => exact ⟨_, _, x, y, rfl, rfl, hxo, hyo, hxk, hyk, Hz9, Hz10, HBB⟩
        · skip
          have hz9 := At.new 66 ((wA).alloc (.cells Rec.zero.cells 66)) Rec.zero
          have hlt := hz10.lt
          replace hz10 := At.below hz10 (below_alloc (Below.refl _ _) (.cells Rec.zero.cells 66))
          have hle_z9 := hB.size
          replace hB := below_alloc hB (.cells Rec.zero.cells 66)
          refine value_ (by rfl) rfl (ex_alloc (run_alloc66 _) rfl) ?_
          refine hK.out _ _ (hHeld.below (below_alloc (Below.refl _ _) (.cells Rec.zero.cells 66))) (fun hHeld => ?_)
          clear hK K
          refine norm_ (a' := ?_) ?_ ?_
          rotate_left
          · show Act.put _ (some 9) _ = _
            simp only [Act.put, List.setIfInBounds_toArray, List.set_cons_zero, List.set_cons_succ]
            rfl
          refine one_ (i := 3) (N := (some 26)) #[true, true, true, true, true, true, false, false] rfl rfl (one_of HT_.out (by kernel_rfl)) (by decide) (fun K hK => ?_)
          refine call_ 46 #[.agg s.cells] (by rfl) rfl (by go_simp) ?_
          refine (right_any s _ hs).mono ?_
          rintro e wB ⟨y, rfl, hyo, hyk, hb⟩
          replace hB := below_then hB hb
          replace hz9 := At.below hz9 hb
          replace hz10 := At.below hz10 hb
          refine ⟨_, rfl, ?_⟩
          refine hK.out _ _ (hHeld.below hb) (fun hHeld => ?_)
          clear hK K
          refine norm_ (a' := ?_) ?_ ?_
          rotate_left
          · show Act.put _ (some 26) _ = _
            simp only [Act.put, List.setIfInBounds_toArray, List.set_cons_zero, List.set_cons_succ]
            rfl
          clear hb
          refine last_ (i := 6) (N := none) #[true, true, true, true, true, true, true, false] rfl rfl (one_of HT_.out (by kernel_rfl)) (by decide) (fun K hK => ?_)
          have hxs := hz9.set (s := x)
          have hxr := hle_z9
          have hBn := Below.setRow' hB (show w.heap.size ≤ ((wA).alloc (.cells Rec.zero.cells 66)).heap.size by omega) x.cells
          refine skip_ (by rfl) rfl (ex_store (hz9.store66 zero_n (s := x) hxo.n) rfl rfl rfl) ?_
          refine hK.out _ _ ?_
          clear hK K
          have hoth := At.set_other (cs := x.cells) hz10 (Nat.ne_of_lt hlt)
          replace hz10 := hoth
          clear hoth
          replace hB := hBn
          clear hBn
          replace hz9 := hxs
          refine last_ (i := 7) (N := none) #[true, true, true, true, true, true, true, true] rfl rfl (one_of HT_.out (by kernel_rfl)) (by decide) (fun K hK => ?_)
          have hys := hz10.set (s := y)
          have hyr := hle_z10
          have hBn := Below.setRow' hB (show w.heap.size ≤ (wA).heap.size by omega) y.cells
          refine skip_ (by rfl) rfl (ex_store (hz10.store66 zero_n (s := y) hyo.n) rfl rfl rfl) ?_
          refine hK.out _ _ ?_
          clear hK K
          have hoth := At.set_other (cs := y.cells) hz9 (Nat.ne_of_gt hlt)
          replace hz9 := hoth
          clear hoth
          replace hB := hBn
          clear hBn
          replace hz10 := hys
          refine done_ (done_of HT_.out (by kernel_rfl)) ?_
          clear HT_ HW_
          have Hz9 := Lib.hid hz9
          have Hz10 := Lib.hid hz10
          have HBB := Lib.hid hB
          clear hz9 hz10 hB
          go_wp2_with fail
          go_meet
          case rel => exact ⟨_, _, x, y, rfl, rfl, hxo, hyo, hxk, hyk, Hz9, Hz10, HBB⟩
    · skip
      have hz9 := At.new 66 (w3) Rec.zero
      have hle_z9 := hB.size
      replace hB := below_alloc hB (.cells Rec.zero.cells 66)
      refine value_ (by rfl) rfl (ex_alloc (run_alloc66 _) rfl) ?_
      refine hK.out _ _ (hHeld.below (below_alloc (Below.refl _ _) (.cells Rec.zero.cells 66))) (fun hHeld => ?_)
      clear hK K
      refine norm_ (a' := ?_) ?_ ?_
      rotate_left
      · show Act.put _ (some 9) _ = _
        simp only [Act.put, List.setIfInBounds_toArray, List.set_cons_zero, List.set_cons_succ]
        rfl
      refine two_ (i := 1) (j := 5) (Ni := (some 24)) (Nj := (some 10)) #[true, true, true, false, true, false, false, false] #[true, false, true, false, true, true, false, false] rfl rfl rfl rfl (two_of HT_.out (by kernel_rfl)) (by decide) (by decide) (fun K hK => ?_) (fun K hK => ?_)
      · skip
        refine call_ 46 #[.agg r.cells] (by rfl) rfl (by go_simp) ?_
        refine (right_any r _ hr).mono ?_
        rintro e wA ⟨x, rfl, hxo, hxk, hb⟩
        replace hB := below_then hB hb
        replace hz9 := At.below hz9 hb
        refine ⟨_, rfl, ?_⟩
        refine hK.out _ _ (hHeld.below hb) (fun hHeld => ?_)
        clear hK K
        refine norm_ (a' := ?_) ?_ ?_
        rotate_left
        · show Act.put _ (some 24) _ = _
          simp only [Act.put, List.setIfInBounds_toArray, List.set_cons_zero, List.set_cons_succ]
          rfl
        clear hb
        refine two_ (i := 3) (j := 5) (Ni := (some 26)) (Nj := (some 10)) #[true, true, true, true, true, false, false, false] #[true, true, true, false, true, true, false, false] rfl rfl rfl rfl (two_of HT_.out (by kernel_rfl)) (by decide) (by decide) (fun K hK => ?_) (fun K hK => ?_)
        · skip
          refine call_ 46 #[.agg s.cells] (by rfl) rfl (by go_simp) ?_
          refine (right_any s _ hs).mono ?_
          rintro e wB ⟨y, rfl, hyo, hyk, hb⟩
          replace hB := below_then hB hb
          replace hz9 := At.below hz9 hb
          refine ⟨_, rfl, ?_⟩
          refine hK.out _ _ (hHeld.below hb) (fun hHeld => ?_)
          clear hK K
          refine norm_ (a' := ?_) ?_ ?_
          rotate_left
          · show Act.put _ (some 26) _ = _
            simp only [Act.put, List.setIfInBounds_toArray, List.set_cons_zero, List.set_cons_succ]
            rfl
          clear hb
          refine one_ (i := 5) (N := (some 10)) #[true, true, true, true, true, true, false, false] rfl rfl (one_of HT_.out (by kernel_rfl)) (by decide) (fun K hK => ?_)
          have hz10 := At.new 66 (wB) Rec.zero
          have hlt := hz9.lt
          replace hz9 := At.below hz9 (below_alloc (Below.refl _ _) (.cells Rec.zero.cells 66))
          have hle_z10 := hB.size
          replace hB := below_alloc hB (.cells Rec.zero.cells 66)
          refine value_ (by rfl) rfl (ex_alloc (run_alloc66 _) rfl) ?_
          refine hK.out _ _ (hHeld.below (below_alloc (Below.refl _ _) (.cells Rec.zero.cells 66))) (fun hHeld => ?_)
          clear hK K
          refine norm_ (a' := ?_) ?_ ?_
          rotate_left
          · show Act.put _ (some 10) _ = _
            simp only [Act.put, List.setIfInBounds_toArray, List.set_cons_zero, List.set_cons_succ]
            rfl
          refine last_ (i := 6) (N := none) #[true, true, true, true, true, true, true, false] rfl rfl (one_of HT_.out (by kernel_rfl)) (by decide) (fun K hK => ?_)
          have hxs := hz9.set (s := x)
          have hxr := hle_z9
          have hBn := Below.setRow' hB (show w.heap.size ≤ (w3).heap.size by omega) x.cells
          refine skip_ (by rfl) rfl (ex_store (hz9.store66 zero_n (s := x) hxo.n) rfl rfl rfl) ?_
          refine hK.out _ _ ?_
          clear hK K
          have hoth := At.set_other (cs := x.cells) hz10 (Nat.ne_of_gt hlt)
          replace hz10 := hoth
          clear hoth
          replace hB := hBn
          clear hBn
          replace hz9 := hxs
          refine last_ (i := 7) (N := none) #[true, true, true, true, true, true, true, true] rfl rfl (one_of HT_.out (by kernel_rfl)) (by decide) (fun K hK => ?_)
          have hys := hz10.set (s := y)
          have hyr := hle_z10
          have hBn := Below.setRow' hB (show w.heap.size ≤ (wB).heap.size by omega) y.cells
          refine skip_ (by rfl) rfl (ex_store (hz10.store66 zero_n (s := y) hyo.n) rfl rfl rfl) ?_
          refine hK.out _ _ ?_
          clear hK K
          have hoth := At.set_other (cs := y.cells) hz9 (Nat.ne_of_lt hlt)
          replace hz9 := hoth
          clear hoth
          replace hB := hBn
          clear hBn
          replace hz10 := hys
          refine done_ (done_of HT_.out (by kernel_rfl)) ?_
          clear HT_ HW_
          have Hz9 := Lib.hid hz9
          have Hz10 := Lib.hid hz10
          have HBB := Lib.hid hB
          clear hz9 hz10 hB
          go_wp2_with fail
          go_meet
          case rel => exact ⟨_, _, x, y, rfl, rfl, hxo, hyo, hxk, hyk, Hz9, Hz10, HBB⟩
        · skip
          have hz10 := At.new 66 (wA) Rec.zero
          have hlt := hz9.lt
          replace hz9 := At.below hz9 (below_alloc (Below.refl _ _) (.cells Rec.zero.cells 66))
          have hle_z10 := hB.size
          replace hB := below_alloc hB (.cells Rec.zero.cells 66)
          refine value_ (by rfl) rfl (ex_alloc (run_alloc66 _) rfl) ?_
          refine hK.out _ _ (hHeld.below (below_alloc (Below.refl _ _) (.cells Rec.zero.cells 66))) (fun hHeld => ?_)
          clear hK K
          refine norm_ (a' := ?_) ?_ ?_
          rotate_left
          · show Act.put _ (some 10) _ = _
            simp only [Act.put, List.setIfInBounds_toArray, List.set_cons_zero, List.set_cons_succ]
            rfl
          refine one_ (i := 3) (N := (some 26)) #[true, true, true, true, true, true, false, false] rfl rfl (one_of HT_.out (by kernel_rfl)) (by decide) (fun K hK => ?_)
          refine call_ 46 #[.agg s.cells] (by rfl) rfl (by go_simp) ?_
          refine (right_any s _ hs).mono ?_
          rintro e wB ⟨y, rfl, hyo, hyk, hb⟩
          replace hB := below_then hB hb
          replace hz9 := At.below hz9 hb
          replace hz10 := At.below hz10 hb
          refine ⟨_, rfl, ?_⟩
          refine hK.out _ _ (hHeld.below hb) (fun hHeld => ?_)
          clear hK K
          refine norm_ (a' := ?_) ?_ ?_
          rotate_left
          · show Act.put _ (some 26) _ = _
            simp only [Act.put, List.setIfInBounds_toArray, List.set_cons_zero, List.set_cons_succ]
            rfl
          clear hb
          refine last_ (i := 6) (N := none) #[true, true, true, true, true, true, true, false] rfl rfl (one_of HT_.out (by kernel_rfl)) (by decide) (fun K hK => ?_)
          have hxs := hz9.set (s := x)
          have hxr := hle_z9
          have hBn := Below.setRow' hB (show w.heap.size ≤ (w3).heap.size by omega) x.cells
          refine skip_ (by rfl) rfl (ex_store (hz9.store66 zero_n (s := x) hxo.n) rfl rfl rfl) ?_
          refine hK.out _ _ ?_
          clear hK K
          have hoth := At.set_other (cs := x.cells) hz10 (Nat.ne_of_gt hlt)
          replace hz10 := hoth
          clear hoth
          replace hB := hBn
          clear hBn
          replace hz9 := hxs
          refine last_ (i := 7) (N := none) #[true, true, true, true, true, true, true, true] rfl rfl (one_of HT_.out (by kernel_rfl)) (by decide) (fun K hK => ?_)
          have hys := hz10.set (s := y)
          have hyr := hle_z10
          have hBn := Below.setRow' hB (show w.heap.size ≤ (wA).heap.size by omega) y.cells
          refine skip_ (by rfl) rfl (ex_store (hz10.store66 zero_n (s := y) hyo.n) rfl rfl rfl) ?_
          refine hK.out _ _ ?_
          clear hK K
          have hoth := At.set_other (cs := y.cells) hz9 (Nat.ne_of_lt hlt)
          replace hz9 := hoth
          clear hoth
          replace hB := hBn
          clear hBn
          replace hz10 := hys
          refine done_ (done_of HT_.out (by kernel_rfl)) ?_
          clear HT_ HW_
          have Hz9 := Lib.hid hz9
          have Hz10 := Lib.hid hz10
          have HBB := Lib.hid hB
          clear hz9 hz10 hB
          go_wp2_with fail
          go_meet
          case rel => exact ⟨_, _, x, y, rfl, rfl, hxo, hyo, hxk, hyk, Hz9, Hz10, HBB⟩
      · skip
        have hz10 := At.new 66 ((w3).alloc (.cells Rec.zero.cells 66)) Rec.zero
        have hlt := hz9.lt
        replace hz9 := At.below hz9 (below_alloc (Below.refl _ _) (.cells Rec.zero.cells 66))
        have hle_z10 := hB.size
        replace hB := below_alloc hB (.cells Rec.zero.cells 66)
        refine value_ (by rfl) rfl (ex_alloc (run_alloc66 _) rfl) ?_
        refine hK.out _ _ (hHeld.below (below_alloc (Below.refl _ _) (.cells Rec.zero.cells 66))) (fun hHeld => ?_)
        clear hK K
        refine norm_ (a' := ?_) ?_ ?_
        rotate_left
        · show Act.put _ (some 10) _ = _
          simp only [Act.put, List.setIfInBounds_toArray, List.set_cons_zero, List.set_cons_succ]
          rfl
        refine one_ (i := 1) (N := (some 24)) #[true, true, true, false, true, true, false, false] rfl rfl (one_of HT_.out (by kernel_rfl)) (by decide) (fun K hK => ?_)
        refine call_ 46 #[.agg r.cells] (by rfl) rfl (by go_simp) ?_
        refine (right_any r _ hr).mono ?_
        rintro e wA ⟨x, rfl, hxo, hxk, hb⟩
        replace hB := below_then hB hb
        replace hz9 := At.below hz9 hb
        replace hz10 := At.below hz10 hb
        refine ⟨_, rfl, ?_⟩
        refine hK.out _ _ (hHeld.below hb) (fun hHeld => ?_)
        clear hK K
        refine norm_ (a' := ?_) ?_ ?_
        rotate_left
        · show Act.put _ (some 24) _ = _
          simp only [Act.put, List.setIfInBounds_toArray, List.set_cons_zero, List.set_cons_succ]
          rfl
        clear hb
        refine one_ (i := 3) (N := (some 26)) #[true, true, true, true, true, true, false, false] rfl rfl (one_of HT_.out (by kernel_rfl)) (by decide) (fun K hK => ?_)
        refine call_ 46 #[.agg s.cells] (by rfl) rfl (by go_simp) ?_
        refine (right_any s _ hs).mono ?_
        rintro e wB ⟨y, rfl, hyo, hyk, hb⟩
        replace hB := below_then hB hb
        replace hz9 := At.below hz9 hb
        replace hz10 := At.below hz10 hb
        refine ⟨_, rfl, ?_⟩
        refine hK.out _ _ (hHeld.below hb) (fun hHeld => ?_)
        clear hK K
        refine norm_ (a' := ?_) ?_ ?_
        rotate_left
        · show Act.put _ (some 26) _ = _
          simp only [Act.put, List.setIfInBounds_toArray, List.set_cons_zero, List.set_cons_succ]
          rfl
        clear hb
        refine last_ (i := 6) (N := none) #[true, true, true, true, true, true, true, false] rfl rfl (one_of HT_.out (by kernel_rfl)) (by decide) (fun K hK => ?_)
        have hxs := hz9.set (s := x)
        have hxr := hle_z9
        have hBn := Below.setRow' hB (show w.heap.size ≤ (w3).heap.size by omega) x.cells
        refine skip_ (by rfl) rfl (ex_store (hz9.store66 zero_n (s := x) hxo.n) rfl rfl rfl) ?_
        refine hK.out _ _ ?_
        clear hK K
        have hoth := At.set_other (cs := x.cells) hz10 (Nat.ne_of_gt hlt)
        replace hz10 := hoth
        clear hoth
        replace hB := hBn
        clear hBn
        replace hz9 := hxs
        refine last_ (i := 7) (N := none) #[true, true, true, true, true, true, true, true] rfl rfl (one_of HT_.out (by kernel_rfl)) (by decide) (fun K hK => ?_)
        have hys := hz10.set (s := y)
        have hyr := hle_z10
        have hBn := Below.setRow' hB (show w.heap.size ≤ ((w3).alloc (.cells Rec.zero.cells 66)).heap.size by omega) y.cells
        refine skip_ (by rfl) rfl (ex_store (hz10.store66 zero_n (s := y) hyo.n) rfl rfl rfl) ?_
        refine hK.out _ _ ?_
        clear hK K
        have hoth := At.set_other (cs := y.cells) hz9 (Nat.ne_of_lt hlt)
        replace hz9 := hoth
        clear hoth
        replace hB := hBn
        clear hBn
        replace hz10 := hys
        refine done_ (done_of HT_.out (by kernel_rfl)) ?_
        clear HT_ HW_
        have Hz9 := Lib.hid hz9
        have Hz10 := Lib.hid hz10
        have HBB := Lib.hid hB
        clear hz9 hz10 hB
        go_wp2_with fail
        go_meet
        case rel => exact ⟨_, _, x, y, rfl, rfl, hxo, hyo, hxk, hyk, Hz9, Hz10, HBB⟩
    · skip
      have hz10 := At.new 66 (w3) Rec.zero
      have hle_z10 := hB.size
      replace hB := below_alloc hB (.cells Rec.zero.cells 66)
      refine value_ (by rfl) rfl (ex_alloc (run_alloc66 _) rfl) ?_
      refine hK.out _ _ (hHeld.below (below_alloc (Below.refl _ _) (.cells Rec.zero.cells 66))) (fun hHeld => ?_)
      clear hK K
      refine norm_ (a' := ?_) ?_ ?_
      rotate_left
      · show Act.put _ (some 10) _ = _
        simp only [Act.put, List.setIfInBounds_toArray, List.set_cons_zero, List.set_cons_succ]
        rfl
      refine two_ (i := 1) (j := 4) (Ni := (some 24)) (Nj := (some 9)) #[true, true, true, false, false, true, false, false] #[true, false, true, false, true, true, false, false] rfl rfl rfl rfl (two_of HT_.out (by kernel_rfl)) (by decide) (by decide) (fun K hK => ?_) (fun K hK => ?_)
      · skip
        refine call_ 46 #[.agg r.cells] (by rfl) rfl (by go_simp) ?_
        refine (right_any r _ hr).mono ?_
        rintro e wA ⟨x, rfl, hxo, hxk, hb⟩
        replace hB := below_then hB hb
        replace hz10 := At.below hz10 hb
        refine ⟨_, rfl, ?_⟩
        refine hK.out _ _ (hHeld.below hb) (fun hHeld => ?_)
        clear hK K
        refine norm_ (a' := ?_) ?_ ?_
        rotate_left
        · show Act.put _ (some 24) _ = _
          simp only [Act.put, List.setIfInBounds_toArray, List.set_cons_zero, List.set_cons_succ]
          rfl
        clear hb
        refine two_ (i := 3) (j := 4) (Ni := (some 26)) (Nj := (some 9)) #[true, true, true, true, false, true, false, false] #[true, true, true, false, true, true, false, false] rfl rfl rfl rfl (two_of HT_.out (by kernel_rfl)) (by decide) (by decide) (fun K hK => ?_) (fun K hK => ?_)
        · skip
          refine call_ 46 #[.agg s.cells] (by rfl) rfl (by go_simp) ?_
          refine (right_any s _ hs).mono ?_
          rintro e wB ⟨y, rfl, hyo, hyk, hb⟩
          replace hB := below_then hB hb
          replace hz10 := At.below hz10 hb
          refine ⟨_, rfl, ?_⟩
          refine hK.out _ _ (hHeld.below hb) (fun hHeld => ?_)
          clear hK K
          refine norm_ (a' := ?_) ?_ ?_
          rotate_left
          · show Act.put _ (some 26) _ = _
            simp only [Act.put, List.setIfInBounds_toArray, List.set_cons_zero, List.set_cons_succ]
            rfl
          clear hb
          refine one_ (i := 4) (N := (some 9)) #[true, true, true, true, true, true, false, false] rfl rfl (one_of HT_.out (by kernel_rfl)) (by decide) (fun K hK => ?_)
          have hz9 := At.new 66 (wB) Rec.zero
          have hlt := hz10.lt
          replace hz10 := At.below hz10 (below_alloc (Below.refl _ _) (.cells Rec.zero.cells 66))
          have hle_z9 := hB.size
          replace hB := below_alloc hB (.cells Rec.zero.cells 66)
          refine value_ (by rfl) rfl (ex_alloc (run_alloc66 _) rfl) ?_
          refine hK.out _ _ (hHeld.below (below_alloc (Below.refl _ _) (.cells Rec.zero.cells 66))) (fun hHeld => ?_)
          clear hK K
          refine norm_ (a' := ?_) ?_ ?_
          rotate_left
          · show Act.put _ (some 9) _ = _
            simp only [Act.put, List.setIfInBounds_toArray, List.set_cons_zero, List.set_cons_succ]
            rfl
          refine last_ (i := 6) (N := none) #[true, true, true, true, true, true, true, false] rfl rfl (one_of HT_.out (by kernel_rfl)) (by decide) (fun K hK => ?_)
          have hxs := hz9.set (s := x)
          have hxr := hle_z9
          have hBn := Below.setRow' hB (show w.heap.size ≤ (wB).heap.size by omega) x.cells
          refine skip_ (by rfl) rfl (ex_store (hz9.store66 zero_n (s := x) hxo.n) rfl rfl rfl) ?_
          refine hK.out _ _ ?_
          clear hK K
          have hoth := At.set_other (cs := x.cells) hz10 (Nat.ne_of_lt hlt)
          replace hz10 := hoth
          clear hoth
          replace hB := hBn
          clear hBn
          replace hz9 := hxs
          refine last_ (i := 7) (N := none) #[true, true, true, true, true, true, true, true] rfl rfl (one_of HT_.out (by kernel_rfl)) (by decide) (fun K hK => ?_)
          have hys := hz10.set (s := y)
          have hyr := hle_z10
          have hBn := Below.setRow' hB (show w.heap.size ≤ (w3).heap.size by omega) y.cells
          refine skip_ (by rfl) rfl (ex_store (hz10.store66 zero_n (s := y) hyo.n) rfl rfl rfl) ?_
          refine hK.out _ _ ?_
          clear hK K
          have hoth := At.set_other (cs := y.cells) hz9 (Nat.ne_of_gt hlt)
          replace hz9 := hoth
          clear hoth
          replace hB := hBn
          clear hBn
          replace hz10 := hys
          refine done_ (done_of HT_.out (by kernel_rfl)) ?_
          clear HT_ HW_
          have Hz9 := Lib.hid hz9
          have Hz10 := Lib.hid hz10
          have HBB := Lib.hid hB
          clear hz9 hz10 hB
          go_wp2_with fail
          go_meet
          case rel => exact ⟨_, _, x, y, rfl, rfl, hxo, hyo, hxk, hyk, Hz9, Hz10, HBB⟩
        · skip
          have hz9 := At.new 66 (wA) Rec.zero
          have hlt := hz10.lt
          replace hz10 := At.below hz10 (below_alloc (Below.refl _ _) (.cells Rec.zero.cells 66))
          have hle_z9 := hB.size
          replace hB := below_alloc hB (.cells Rec.zero.cells 66)
          refine value_ (by rfl) rfl (ex_alloc (run_alloc66 _) rfl) ?_
          refine hK.out _ _ (hHeld.below (below_alloc (Below.refl _ _) (.cells Rec.zero.cells 66))) (fun hHeld => ?_)
          clear hK K
          refine norm_ (a' := ?_) ?_ ?_
          rotate_left
          · show Act.put _ (some 9) _ = _
            simp only [Act.put, List.setIfInBounds_toArray, List.set_cons_zero, List.set_cons_succ]
            rfl
          refine one_ (i := 3) (N := (some 26)) #[true, true, true, true, true, true, false, false] rfl rfl (one_of HT_.out (by kernel_rfl)) (by decide) (fun K hK => ?_)
          refine call_ 46 #[.agg s.cells] (by rfl) rfl (by go_simp) ?_
          refine (right_any s _ hs).mono ?_
          rintro e wB ⟨y, rfl, hyo, hyk, hb⟩
          replace hB := below_then hB hb
          replace hz9 := At.below hz9 hb
          replace hz10 := At.below hz10 hb
          refine ⟨_, rfl, ?_⟩
          refine hK.out _ _ (hHeld.below hb) (fun hHeld => ?_)
          clear hK K
          refine norm_ (a' := ?_) ?_ ?_
          rotate_left
          · show Act.put _ (some 26) _ = _
            simp only [Act.put, List.setIfInBounds_toArray, List.set_cons_zero, List.set_cons_succ]
            rfl
          clear hb
          refine last_ (i := 6) (N := none) #[true, true, true, true, true, true, true, false] rfl rfl (one_of HT_.out (by kernel_rfl)) (by decide) (fun K hK => ?_)
          have hxs := hz9.set (s := x)
          have hxr := hle_z9
          have hBn := Below.setRow' hB (show w.heap.size ≤ (wA).heap.size by omega) x.cells
          refine skip_ (by rfl) rfl (ex_store (hz9.store66 zero_n (s := x) hxo.n) rfl rfl rfl) ?_
          refine hK.out _ _ ?_
          clear hK K
          have hoth := At.set_other (cs := x.cells) hz10 (Nat.ne_of_lt hlt)
          replace hz10 := hoth
          clear hoth
          replace hB := hBn
          clear hBn
          replace hz9 := hxs
          refine last_ (i := 7) (N := none) #[true, true, true, true, true, true, true, true] rfl rfl (one_of HT_.out (by kernel_rfl)) (by decide) (fun K hK => ?_)
          have hys := hz10.set (s := y)
          have hyr := hle_z10
          have hBn := Below.setRow' hB (show w.heap.size ≤ (w3).heap.size by omega) y.cells
          refine skip_ (by rfl) rfl (ex_store (hz10.store66 zero_n (s := y) hyo.n) rfl rfl rfl) ?_
          refine hK.out _ _ ?_
          clear hK K
          have hoth := At.set_other (cs := y.cells) hz9 (Nat.ne_of_gt hlt)
          replace hz9 := hoth
          clear hoth
          replace hB := hBn
          clear hBn
          replace hz10 := hys
          refine done_ (done_of HT_.out (by kernel_rfl)) ?_
          clear HT_ HW_
          have Hz9 := Lib.hid hz9
          have Hz10 := Lib.hid hz10
          have HBB := Lib.hid hB
          clear hz9 hz10 hB
          go_wp2_with fail
          go_meet
          case rel => exact ⟨_, _, x, y, rfl, rfl, hxo, hyo, hxk, hyk, Hz9, Hz10, HBB⟩
      · skip
        have hz9 := At.new 66 ((w3).alloc (.cells Rec.zero.cells 66)) Rec.zero
        have hlt := hz10.lt
        replace hz10 := At.below hz10 (below_alloc (Below.refl _ _) (.cells Rec.zero.cells 66))
        have hle_z9 := hB.size
        replace hB := below_alloc hB (.cells Rec.zero.cells 66)
        refine value_ (by rfl) rfl (ex_alloc (run_alloc66 _) rfl) ?_
        refine hK.out _ _ (hHeld.below (below_alloc (Below.refl _ _) (.cells Rec.zero.cells 66))) (fun hHeld => ?_)
        clear hK K
        refine norm_ (a' := ?_) ?_ ?_
        rotate_left
        · show Act.put _ (some 9) _ = _
          simp only [Act.put, List.setIfInBounds_toArray, List.set_cons_zero, List.set_cons_succ]
          rfl
        refine one_ (i := 1) (N := (some 24)) #[true, true, true, false, true, true, false, false] rfl rfl (one_of HT_.out (by kernel_rfl)) (by decide) (fun K hK => ?_)
        refine call_ 46 #[.agg r.cells] (by rfl) rfl (by go_simp) ?_
        refine (right_any r _ hr).mono ?_
        rintro e wA ⟨x, rfl, hxo, hxk, hb⟩
        replace hB := below_then hB hb
        replace hz9 := At.below hz9 hb
        replace hz10 := At.below hz10 hb
        refine ⟨_, rfl, ?_⟩
        refine hK.out _ _ (hHeld.below hb) (fun hHeld => ?_)
        clear hK K
        refine norm_ (a' := ?_) ?_ ?_
        rotate_left
        · show Act.put _ (some 24) _ = _
          simp only [Act.put, List.setIfInBounds_toArray, List.set_cons_zero, List.set_cons_succ]
          rfl
        clear hb
        refine one_ (i := 3) (N := (some 26)) #[true, true, true, true, true, true, false, false] rfl rfl (one_of HT_.out (by kernel_rfl)) (by decide) (fun K hK => ?_)
        refine call_ 46 #[.agg s.cells] (by rfl) rfl (by go_simp) ?_
        refine (right_any s _ hs).mono ?_
        rintro e wB ⟨y, rfl, hyo, hyk, hb⟩
        replace hB := below_then hB hb
        replace hz9 := At.below hz9 hb
        replace hz10 := At.below hz10 hb
        refine ⟨_, rfl, ?_⟩
        refine hK.out _ _ (hHeld.below hb) (fun hHeld => ?_)
        clear hK K
        refine norm_ (a' := ?_) ?_ ?_
        rotate_left
        · show Act.put _ (some 26) _ = _
          simp only [Act.put, List.setIfInBounds_toArray, List.set_cons_zero, List.set_cons_succ]
          rfl
        clear hb
        refine last_ (i := 6) (N := none) #[true, true, true, true, true, true, true, false] rfl rfl (one_of HT_.out (by kernel_rfl)) (by decide) (fun K hK => ?_)
        have hxs := hz9.set (s := x)
        have hxr := hle_z9
        have hBn := Below.setRow' hB (show w.heap.size ≤ ((w3).alloc (.cells Rec.zero.cells 66)).heap.size by omega) x.cells
        refine skip_ (by rfl) rfl (ex_store (hz9.store66 zero_n (s := x) hxo.n) rfl rfl rfl) ?_
        refine hK.out _ _ ?_
        clear hK K
        have hoth := At.set_other (cs := x.cells) hz10 (Nat.ne_of_lt hlt)
        replace hz10 := hoth
        clear hoth
        replace hB := hBn
        clear hBn
        replace hz9 := hxs
        refine last_ (i := 7) (N := none) #[true, true, true, true, true, true, true, true] rfl rfl (one_of HT_.out (by kernel_rfl)) (by decide) (fun K hK => ?_)
        have hys := hz10.set (s := y)
        have hyr := hle_z10
        have hBn := Below.setRow' hB (show w.heap.size ≤ (w3).heap.size by omega) y.cells
        refine skip_ (by rfl) rfl (ex_store (hz10.store66 zero_n (s := y) hyo.n) rfl rfl rfl) ?_
        refine hK.out _ _ ?_
        clear hK K
        have hoth := At.set_other (cs := y.cells) hz9 (Nat.ne_of_gt hlt)
        replace hz9 := hoth
        clear hoth
        replace hB := hBn
        clear hBn
        replace hz10 := hys
        refine done_ (done_of HT_.out (by kernel_rfl)) ?_
        clear HT_ HW_
        have Hz9 := Lib.hid hz9
        have Hz10 := Lib.hid hz10
        have HBB := Lib.hid hB
        clear hz9 hz10 hB
        go_wp2_with fail
        go_meet
        case rel => exact ⟨_, _, x, y, rfl, rfl, hxo, hyo, hxk, hyk, Hz9, Hz10, HBB⟩
  case rest =>
    obtain ⟨g9, g10, x, y, rfl, rfl, hxo, hyo, hxk, hyk, HX, HY, Hb⟩ := hcut
    have Ht2 := Lib.hid (Ht.out.below Hb.out)
    have Hcx : Hid (chkE x = 0 ∧ encV x = encL x) := Lib.hid ⟨by rw [chkE, if_pos hxk], by rw [encV, if_pos hxk]⟩
    have Hcy : Hid (chkE y = 0 ∧ encV y = encL y) := Lib.hid ⟨by rw [chkE, if_pos hyk], by rw [encV, if_pos hyk]⟩
    go_wp2_with (first
      | (refine go_value (o := ⟨some 28, _, _, _, _, _⟩) (by rfl) (ex_load (HX.out.load66 hxo.n) rfl rfl) ?_)
      | fail)
    refine (enc_any x _ hxo Ht2.out).mono ?_
    rw [Hcx.out.1, Hcx.out.2]
    rintro e w4 ⟨v1, rfl, ho1, hb1⟩
    obtain ⟨gb, cb, rfl, hgb0, hcb, -, -⟩ := ho1.form (by rw [encL_length hxo.n]; omega)
    rw [encL_length hxo.n] at ho1 hcb ⊢
    have Hgb : Hid (w.heap.size ≤ gb) := Lib.hid (Nat.le_trans Hb.out.size hgb0)
    have Ho4 := Lib.hid (ho1.lower Hb.out.size)
    have HX4 := Lib.hid (HX.out.below hb1)
    have HY4 := Lib.hid (HY.out.below hb1)
    have Hb4 := Lib.hid (below_then Hb.out hb1)
    have Ht4 := Lib.hid (Ht.out.below Hb4.out)
    clear ho1 hb1 HX HY Hb Ht2 hgb0
    go_wp2_with (first
      | (refine go_value (o := ⟨some 33, _, _, _, _, _⟩) (by rfl) (ex_load (HY4.out.load66 hyo.n) rfl rfl) ?_)
      | fail)
    refine (enc_any y _ hyo Ht4.out).mono ?_
    rw [Hcy.out.1, Hcy.out.2]
    rintro e w5 ⟨v2, rfl, ho2, hb2⟩
    obtain ⟨gc, c13, rfl, -, -, -, -⟩ := ho2.form (by rw [encL_length hyo.n]; omega)
    rw [encL_length hyo.n] at ho2 ⊢
    have Hc5 := Lib.hid ho2.reads
    have Ho5 := Lib.hid (Ho4.out.below hb2)
    have HX5 := Lib.hid (HX4.out.below hb2)
    have HY5 := Lib.hid (HY4.out.below hb2)
    have Hb5 := Lib.hid (below_then Hb4.out hb2)
    have Ht5 := Lib.hid (Ht.out.below Hb5.out)
    clear ho2 hb2 HX4 HY4 Hb4 Ht4 Ho4
    go_wp2_with fail
    refine (decode_any _ (encL x) _ Ho5.out.reads Ht5.out).mono ?_
    have hdx : decV (encL x) = x ∧ decE (encL x) = 0 := by
      constructor
      · rw [decV, if_pos (decOk_encL x hxo hxk), decR_encL x hxo hxk]
      · rw [decE, if_pos (encL_length hxo.n), if_pos (decOk_encL x hxo hxk)]
    rw [hdx.1, hdx.2]
    clear hdx
    rintro e w6 ⟨rfl, hb6⟩
    have hv6 := var_made 66 w6 x
    have HZ6 := Lib.hid (At.new 66 w6 Rec.zero)
    have hq6 := below_then hb6 hv6.2
    have HX6 := Lib.hid (HX5.out.below hq6)
    have HY6 := Lib.hid (HY5.out.below hq6)
    have HV6 := Lib.hid hv6.1
    have Hb6 := Lib.hid (below_then Hb5.out hq6)
    have Ho6 := Lib.hid (Ho5.out.below hq6)
    have Hc6 := Lib.hid (Hc5.out.below hq6)
    clear hv6 hb6 hq6 HX5 HY5 Hb5 Ht5 Ho5 Hc5
    go_upto_region 7 with (first
      | (refine go_value (o := ⟨_, .alloc 66, _, _, _, _⟩) (by rfl) (ex_alloc (run_alloc66 _) rfl) ?_)
      | (refine go_skip (o := ⟨none, .store 66 _ _, _, _, _, _⟩) (by rfl) (ex_store (HZ6.out.store66 zero_n (s := x) hxo.n) rfl rfl rfl) ?_)
      | fail)
    generalize hg15 : w6.heap.size = g15 at HX6 HY6 HV6 Hb6 Ho6 Hc6 ⊢
    generalize (w6.alloc (.cells Rec.zero.cells 66)).setRow g15 x.cells = w7 at HX6 HY6 HV6 Hb6 Ho6 Hc6 ⊢
    clear hg15 HZ6
    have hL1 := encL_isB hxo hxk
    have hL2 := encL_isB hyo hyk
    have hst : ((strOfNums (encL x)).toList == (strOfNums (encL y)).toList) = recEq x y := by
      rw [str_beq hL1 hL2, Bool.eq_iff_iff, beq_iff_eq, recEq_iff]
      exact encL_inj hxo hyo hxk hyk
    have Htold : Hid (∀ k : Nat, k + 4 ≤ 64 → decE (turnN turn k 4 (encL x)) = if turn = 0 then 0 else 60) := Lib.hid fun k h4 => turned_told x hxo hxk k turn h4 htu
    have Hlen : Hid ((encL x).length = 64) := Lib.hid (encL_length hxo.n)
    have Hisb := Lib.hid hL1
    obtain ⟨L1, hL1e⟩ : ∃ L, encL x = L := ⟨_, rfl⟩
    obtain ⟨L2, hL2e⟩ : ∃ L, encL y = L := ⟨_, rfl⟩
    rw [hL1e] at Htold Hlen Hisb Ho6 hst
    rw [hL2e] at Hc6 hst
    clear hL1 hL2 hL1e hL2e Hcx Hcy
    have hS7 : S147 g15 g9 g10 x y (.slice (some ⟨gb, 0, none⟩) 64 cb) (.slice (some ⟨gc, 0, none⟩) 64 c13) L1 L2 w7.drew := (S147.mk HV6.out HX6.out HY6.out Ho6.out.reads Hc6.out).below (below_drew (Below.refl _ _))
    have Hk : Hid (Below w.heap.size w w7.drew ∧ OB w7.drew w.heap.size (.slice (some ⟨gb, 0, none⟩) 64 cb) L1) := Lib.hid ⟨below_drew Hb6.out, Ho6.out.drew⟩
    clear HX6 HY6 HV6 Hb6 Ho6 Hc6
    refine start_ (n := 36) (S := S147 g15 g9 g10 x y (.slice (some ⟨gb, 0, none⟩) 64 cb) (.slice (some ⟨gc, 0, none⟩) 64 c13) L1 L2) (ds := []) #[false, false, false, false, false, false, false, false, false, false, false, false, false, false, false, false, false, false, false, false, false, false, false, false, false, false, false, false, false, false, false, false, false, false, false, false] (by kernel_rfl) rfl rfl (hS7) (fun hHeld => ?_); refine with_tabW tab14_7 bits14_7 (fun HT_ HW_ => ?_)
    clear hS7
    generalize w7.drew = w7d at Hk hHeld ⊢
    refine pure_ (i := 0) (N := (some 42)) (v := ?_) (a' := ?_) #[true, false, false, false, false, false, false, false, false, false, false, false, false, false, false, false, false, false, false, false, false, false, false, false, false, false, false, false, false, false, false, false, false, false, false, false] rfl rfl (any_of HT_.out (by kernel_rfl)) (fun _ _ _ h => h) (Or.inl ⟨by rfl, ?_⟩) ?_ ?_
    rotate_left
    · intro w'
      go_simp
      with_reducible rfl
    rotate_left
    · simp only [Act.put, List.setIfInBounds_toArray, List.set_cons_zero, List.set_cons_succ]
      rfl
    refine pure_ (i := 1) (N := (some 43)) (v := ?_) (a' := ?_) #[true, true, false, false, false, false, false, false, false, false, false, false, false, false, false, false, false, false, false, false, false, false, false, false, false, false, false, false, false, false, false, false, false, false, false, false] rfl rfl (any_of HT_.out (by kernel_rfl)) (fun _ _ _ h => h) (Or.inl ⟨by rfl, ?_⟩) ?_ ?_
    rotate_left
    · intro w'
      go_simp
      with_reducible rfl
    rotate_left
    · simp only [Act.put, List.setIfInBounds_toArray, List.set_cons_zero, List.set_cons_succ]
      rfl
    refine pure_ (i := 2) (N := (some 44)) (v := ?_) (a' := ?_) #[true, true, true, false, false, false, false, false, false, false, false, false, false, false, false, false, false, false, false, false, false, false, false, false, false, false, false, false, false, false, false, false, false, false, false, false] rfl rfl (any_of HT_.out (by kernel_rfl)) (fun _ _ _ h => h) (Or.inl ⟨by rfl, ?_⟩) ?_ ?_
    rotate_left
    · intro w'
      go_simp
      with_reducible rfl
    rotate_left
    · simp only [Act.put, List.setIfInBounds_toArray, List.set_cons_zero, List.set_cons_succ]
      rfl
    refine pure_ (i := 3) (N := (some 45)) (v := ?_) (a' := ?_) #[true, true, true, true, false, false, false, false, false, false, false, false, false, false, false, false, false, false, false, false, false, false, false, false, false, false, false, false, false, false, false, false, false, false, false, false] rfl rfl (any_of HT_.out (by kernel_rfl)) (fun _ _ _ h => h) (Or.inl ⟨by rfl, ?_⟩) ?_ ?_
    rotate_left
    · intro w'
      go_simp
      with_reducible rfl
    rotate_left
    · simp only [Act.put, List.setIfInBounds_toArray, List.set_cons_zero, List.set_cons_succ]
      rfl
    refine pure_ (i := 4) (N := (some 46)) (v := ?_) (a' := ?_) #[true, true, true, true, true, false, false, false, false, false, false, false, false, false, false, false, false, false, false, false, false, false, false, false, false, false, false, false, false, false, false, false, false, false, false, false] rfl rfl (any_of HT_.out (by kernel_rfl)) (fun _ _ _ h => h) (Or.inl ⟨by rfl, ?_⟩) ?_ ?_
    rotate_left
    · intro w'
      go_simp
      with_reducible rfl
    rotate_left
    · simp only [Act.put, List.setIfInBounds_toArray, List.set_cons_zero, List.set_cons_succ]
      rfl
    refine pure_ (i := 5) (N := (some 47)) (v := ?_) (a' := ?_) #[true, true, true, true, true, true, false, false, false, false, false, false, false, false, false, false, false, false, false, false, false, false, false, false, false, false, false, false, false, false, false, false, false, false, false, false] rfl rfl (any_of HT_.out (by kernel_rfl)) (fun _ _ _ h => h) (Or.inl ⟨by rfl, ?_⟩) ?_ ?_
    rotate_left
    · intro w'
      go_simp
      with_reducible rfl
    rotate_left
    · simp only [Act.put, List.setIfInBounds_toArray, List.set_cons_zero, List.set_cons_succ]
      rfl
    refine pure_ (i := 6) (N := (some 48)) (v := ?_) (a' := ?_) #[true, true, true, true, true, true, true, false, false, false, false, false, false, false, false, false, false, false, false, false, false, false, false, false, false, false, false, false, false, false, false, false, false, false, false, false] rfl rfl (any_of HT_.out (by kernel_rfl)) (fun _ _ _ h => h) (Or.inl ⟨by rfl, ?_⟩) ?_ ?_
    rotate_left
    · intro w'
      go_simp
      with_reducible rfl
    rotate_left
    · simp only [Act.put, List.setIfInBounds_toArray, List.set_cons_zero, List.set_cons_succ]
      rfl
    refine pure_ (i := 7) (N := (some 49)) (v := ?_) (a' := ?_) #[true, true, true, true, true, true, true, true, false, false, false, false, false, false, false, false, false, false, false, false, false, false, false, false, false, false, false, false, false, false, false, false, false, false, false, false] rfl rfl (any_of HT_.out (by kernel_rfl)) (fun _ _ _ h => h) (Or.inl ⟨by rfl, ?_⟩) ?_ ?_
    rotate_left
    · intro w'
      go_simp
      with_reducible rfl
    rotate_left
    · simp only [Act.put, List.setIfInBounds_toArray, List.set_cons_zero, List.set_cons_succ]
      rfl
    refine pure_ (i := 8) (N := (some 50)) (v := ?_) (a' := ?_) #[true, true, true, true, true, true, true, true, true, false, false, false, false, false, false, false, false, false, false, false, false, false, false, false, false, false, false, false, false, false, false, false, false, false, false, false] rfl rfl (any_of HT_.out (by kernel_rfl)) (fun _ _ _ h => h) (Or.inl ⟨by rfl, ?_⟩) ?_ ?_
    rotate_left
    · intro w'
      go_simp
      with_reducible rfl
    rotate_left
    · simp only [Act.put, List.setIfInBounds_toArray, List.set_cons_zero, List.set_cons_succ]
      rfl
    refine pure_ (i := 9) (N := (some 51)) (v := ?_) (a' := ?_) #[true, true, true, true, true, true, true, true, true, true, false, false, false, false, false, false, false, false, false, false, false, false, false, false, false, false, false, false, false, false, false, false, false, false, false, false] rfl rfl (any_of HT_.out (by kernel_rfl)) (fun _ _ _ h => h) (Or.inl ⟨by rfl, ?_⟩) ?_ ?_
    rotate_left
    · intro w'
      go_simp
      with_reducible rfl
    rotate_left
    · simp only [Act.put, List.setIfInBounds_toArray, List.set_cons_zero, List.set_cons_succ]
      rfl
    refine pure_ (i := 10) (N := (some 52)) (v := ?_) (a' := ?_) #[true, true, true, true, true, true, true, true, true, true, true, false, false, false, false, false, false, false, false, false, false, false, false, false, false, false, false, false, false, false, false, false, false, false, false, false] rfl rfl (any_of HT_.out (by kernel_rfl)) (fun _ _ _ h => h) (Or.inl ⟨by rfl, ?_⟩) ?_ ?_
    rotate_left
    · intro w'
      go_simp
      with_reducible rfl
    rotate_left
    · simp only [Act.put, List.setIfInBounds_toArray, List.set_cons_zero, List.set_cons_succ]
      rfl
    refine take_ (i := 11) (N := (some 53)) (v := .agg x.cells) #[true, true, true, true, true, true, true, true, true, true, true, true, false, false, false, false, false, false, false, false, false, false, false, false, false, false, false, false, false, false, false, false, false, false, false, false] rfl rfl (take_of HT_.out (by kernel_rfl)) (fun _ _ _ h => h) (Or.inl ⟨by rfl, fun w' hw' => ex_load (hw'.z.load66 hxo.n) rfl rfl⟩) hHeld rfl ?_
    refine norm_ (a' := ?_) ?_ ?_
    rotate_left
    · show Act.put _ (some 53) _ = _
      simp only [Act.put, List.setIfInBounds_toArray, List.set_cons_zero, List.set_cons_succ]
      rfl
    refine take_ (i := 12) (N := (some 54)) (v := .agg x.cells) #[true, true, true, true, true, true, true, true, true, true, true, true, true, false, false, false, false, false, false, false, false, false, false, false, false, false, false, false, false, false, false, false, false, false, false, false] rfl rfl (take_of HT_.out (by kernel_rfl)) (fun _ _ _ h => h) (Or.inl ⟨by rfl, fun w' hw' => ex_load (hw'.x.load66 hxo.n) rfl rfl⟩) hHeld rfl ?_
    refine norm_ (a' := ?_) ?_ ?_
    rotate_left
    · show Act.put _ (some 54) _ = _
      simp only [Act.put, List.setIfInBounds_toArray, List.set_cons_zero, List.set_cons_succ]
      rfl
    refine pure_ (i := 13) (N := (some 55)) (v := .bool false) #[true, true, true, true, true, true, true, true, true, true, true, true, true, true, false, false, false, false, false, false, false, false, false, false, false, false, false, false, false, false, false, false, false, false, false, false] rfl rfl (any_of HT_.out (by kernel_rfl)) (fun _ _ _ h => h) (Or.inl ⟨by rfl, fun w' => ex_bin (by have h9 := neq66 x x hxo.n hxo.n w'; rw [recEq_self] at h9; exact h9) rfl rfl rfl (run_eqGuard_agg _ _ _ _ _ _ _ noGuard66)⟩) rfl ?_
    refine norm_ (a' := ?_) ?_ ?_
    rotate_left
    · show Act.put _ (some 55) _ = _
      simp only [Act.put, List.setIfInBounds_toArray, List.set_cons_zero, List.set_cons_succ]
      rfl
    refine pure_ (i := 14) (N := (some 56)) (v := ?_) (a' := ?_) #[true, true, true, true, true, true, true, true, true, true, true, true, true, true, true, false, false, false, false, false, false, false, false, false, false, false, false, false, false, false, false, false, false, false, false, false] rfl rfl (any_of HT_.out (by kernel_rfl)) (fun _ _ _ h => h) (Or.inl ⟨by rfl, ?_⟩) ?_ ?_
    rotate_left
    · intro w'
      go_simp
      with_reducible rfl
    rotate_left
    · simp only [Act.put, List.setIfInBounds_toArray, List.set_cons_zero, List.set_cons_succ]
      rfl
    refine pure_ (i := 15) (N := (some 57)) (v := ?_) (a' := ?_) #[true, true, true, true, true, true, true, true, true, true, true, true, true, true, true, true, false, false, false, false, false, false, false, false, false, false, false, false, false, false, false, false, false, false, false, false] rfl rfl (any_of HT_.out (by kernel_rfl)) (fun _ _ _ h => h) (Or.inl ⟨by rfl, ?_⟩) ?_ ?_
    rotate_left
    · intro w'
      go_simp
      with_reducible rfl
    rotate_left
    · simp only [Act.put, List.setIfInBounds_toArray, List.set_cons_zero, List.set_cons_succ]
      rfl
    refine pure_ (i := 16) (N := (some 58)) (v := ?_) (a' := ?_) #[true, true, true, true, true, true, true, true, true, true, true, true, true, true, true, true, true, false, false, false, false, false, false, false, false, false, false, false, false, false, false, false, false, false, false, false] rfl rfl (any_of HT_.out (by kernel_rfl)) (fun _ _ _ h => h) (Or.inl ⟨by rfl, ?_⟩) ?_ ?_
    rotate_left
    · intro w'
      go_simp
      with_reducible rfl
    rotate_left
    · simp only [Act.put, List.setIfInBounds_toArray, List.set_cons_zero, List.set_cons_succ]
      rfl
    refine pure_ (i := 17) (N := (some 59)) (v := ?_) (a' := ?_) #[true, true, true, true, true, true, true, true, true, true, true, true, true, true, true, true, true, true, false, false, false, false, false, false, false, false, false, false, false, false, false, false, false, false, false, false] rfl rfl (any_of HT_.out (by kernel_rfl)) (fun _ _ _ h => h) (Or.inl ⟨by rfl, ?_⟩) ?_ ?_
    rotate_left
    · intro w'
      go_simp
      with_reducible rfl
    rotate_left
    · simp only [Act.put, List.setIfInBounds_toArray, List.set_cons_zero, List.set_cons_succ]
      rfl
    refine pure_ (i := 18) (N := (some 60)) (v := ?_) (a' := ?_) #[true, true, true, true, true, true, true, true, true, true, true, true, true, true, true, true, true, true, true, false, false, false, false, false, false, false, false, false, false, false, false, false, false, false, false, false] rfl rfl (any_of HT_.out (by kernel_rfl)) (fun _ _ _ h => h) (Or.inl ⟨by rfl, ?_⟩) ?_ ?_
    rotate_left
    · intro w'
      go_simp
      with_reducible rfl
    rotate_left
    · simp only [Act.put, List.setIfInBounds_toArray, List.set_cons_zero, List.set_cons_succ]
      rfl
    refine pure_ (i := 19) (N := (some 61)) (v := ?_) (a' := ?_) #[true, true, true, true, true, true, true, true, true, true, true, true, true, true, true, true, true, true, true, true, false, false, false, false, false, false, false, false, false, false, false, false, false, false, false, false] rfl rfl (any_of HT_.out (by kernel_rfl)) (fun _ _ _ h => h) (Or.inl ⟨by rfl, ?_⟩) ?_ ?_
    rotate_left
    · intro w'
      go_simp
      with_reducible rfl
    rotate_left
    · simp only [Act.put, List.setIfInBounds_toArray, List.set_cons_zero, List.set_cons_succ]
      rfl
    refine pure_ (i := 20) (N := (some 62)) (v := ?_) (a' := ?_) #[true, true, true, true, true, true, true, true, true, true, true, true, true, true, true, true, true, true, true, true, true, false, false, false, false, false, false, false, false, false, false, false, false, false, false, false] rfl rfl (any_of HT_.out (by kernel_rfl)) (fun _ _ _ h => h) (Or.inl ⟨by rfl, ?_⟩) ?_ ?_
    rotate_left
    · intro w'
      go_simp
      with_reducible rfl
    rotate_left
    · simp only [Act.put, List.setIfInBounds_toArray, List.set_cons_zero, List.set_cons_succ]
      rfl
    refine pure_ (i := 21) (N := (some 63)) (v := ?_) (a' := ?_) #[true, true, true, true, true, true, true, true, true, true, true, true, true, true, true, true, true, true, true, true, true, true, false, false, false, false, false, false, false, false, false, false, false, false, false, false] rfl rfl (any_of HT_.out (by kernel_rfl)) (fun _ _ _ h => h) (Or.inl ⟨by rfl, ?_⟩) ?_ ?_
    rotate_left
    · intro w'
      go_simp
      with_reducible rfl
    rotate_left
    · simp only [Act.put, List.setIfInBounds_toArray, List.set_cons_zero, List.set_cons_succ]
      rfl
    refine pure_ (i := 22) (N := (some 64)) (v := ?_) (a' := ?_) #[true, true, true, true, true, true, true, true, true, true, true, true, true, true, true, true, true, true, true, true, true, true, true, false, false, false, false, false, false, false, false, false, false, false, false, false] rfl rfl (any_of HT_.out (by kernel_rfl)) (fun _ _ _ h => h) (Or.inl ⟨by rfl, ?_⟩) ?_ ?_
    rotate_left
    · intro w'
      go_simp
      with_reducible rfl
    rotate_left
    · simp only [Act.put, List.setIfInBounds_toArray, List.set_cons_zero, List.set_cons_succ]
      rfl
    refine pure_ (i := 23) (N := (some 65)) (v := ?_) (a' := ?_) #[true, true, true, true, true, true, true, true, true, true, true, true, true, true, true, true, true, true, true, true, true, true, true, true, false, false, false, false, false, false, false, false, false, false, false, false] rfl rfl (any_of HT_.out (by kernel_rfl)) (fun _ _ _ h => h) (Or.inl ⟨by rfl, ?_⟩) ?_ ?_
    rotate_left
    · intro w'
      go_simp
      with_reducible rfl
    rotate_left
    · simp only [Act.put, List.setIfInBounds_toArray, List.set_cons_zero, List.set_cons_succ]
      rfl
    refine pure_ (i := 24) (N := (some 66)) (v := ?_) (a' := ?_) #[true, true, true, true, true, true, true, true, true, true, true, true, true, true, true, true, true, true, true, true, true, true, true, true, true, false, false, false, false, false, false, false, false, false, false, false] rfl rfl (any_of HT_.out (by kernel_rfl)) (fun _ _ _ h => h) (Or.inl ⟨by rfl, ?_⟩) ?_ ?_
    rotate_left
    · intro w'
      go_simp
      with_reducible rfl
    rotate_left
    · simp only [Act.put, List.setIfInBounds_toArray, List.set_cons_zero, List.set_cons_succ]
      rfl
    refine pure_ (i := 25) (N := (some 67)) (v := ?_) (a' := ?_) #[true, true, true, true, true, true, true, true, true, true, true, true, true, true, true, true, true, true, true, true, true, true, true, true, true, true, false, false, false, false, false, false, false, false, false, false] rfl rfl (any_of HT_.out (by kernel_rfl)) (fun _ _ _ h => h) (Or.inl ⟨by rfl, ?_⟩) ?_ ?_
    rotate_left
    · intro w'
      go_simp
      with_reducible rfl
    rotate_left
    · simp only [Act.put, List.setIfInBounds_toArray, List.set_cons_zero, List.set_cons_succ]
      rfl
    refine pure_ (i := 26) (N := (some 68)) (v := ?_) (a' := ?_) #[true, true, true, true, true, true, true, true, true, true, true, true, true, true, true, true, true, true, true, true, true, true, true, true, true, true, true, false, false, false, false, false, false, false, false, false] rfl rfl (any_of HT_.out (by kernel_rfl)) (fun _ _ _ h => h) (Or.inl ⟨by rfl, ?_⟩) ?_ ?_
    rotate_left
    · intro w'
      go_simp
      with_reducible rfl
    rotate_left
    · simp only [Act.put, List.setIfInBounds_toArray, List.set_cons_zero, List.set_cons_succ]
      rfl
    refine take_ (i := 27) (N := (some 69)) (v := ?_) (a' := ?_) #[true, true, true, true, true, true, true, true, true, true, true, true, true, true, true, true, true, true, true, true, true, true, true, true, true, true, true, true, false, false, false, false, false, false, false, false] rfl rfl (take_of HT_.out (by kernel_rfl)) (fun _ _ _ h => h) (Or.inl ⟨by rfl, ?_⟩) hHeld ?_ ?_
    rotate_left
    · intro w' hw'
      have k9 := conv_str hw'.m
      go_simp
      with_reducible rfl
    rotate_left
    · simp only [Act.put, List.setIfInBounds_toArray, List.set_cons_zero, List.set_cons_succ]
      rfl
    refine pure_ (i := 28) (N := (some 70)) (v := ?_) (a' := ?_) #[true, true, true, true, true, true, true, true, true, true, true, true, true, true, true, true, true, true, true, true, true, true, true, true, true, true, true, true, true, false, false, false, false, false, false, false] rfl rfl (any_of HT_.out (by kernel_rfl)) (fun _ _ _ h => h) (Or.inl ⟨by rfl, ?_⟩) ?_ ?_
    rotate_left
    · intro w'
      go_simp
      with_reducible rfl
    rotate_left
    · simp only [Act.put, List.setIfInBounds_toArray, List.set_cons_zero, List.set_cons_succ]
      rfl
    refine take_ (i := 29) (N := (some 71)) (v := ?_) (a' := ?_) #[true, true, true, true, true, true, true, true, true, true, true, true, true, true, true, true, true, true, true, true, true, true, true, true, true, true, true, true, true, true, false, false, false, false, false, false] rfl rfl (take_of HT_.out (by kernel_rfl)) (fun _ _ _ h => h) (Or.inl ⟨by rfl, ?_⟩) hHeld ?_ ?_
    rotate_left
    · intro w' hw'
      have k9 := conv_str hw'.n
      go_simp
      with_reducible rfl
    rotate_left
    · simp only [Act.put, List.setIfInBounds_toArray, List.set_cons_zero, List.set_cons_succ]
      rfl
    refine pure_ (i := 30) (N := (some 72)) (v := ?_) (a' := ?_) #[true, true, true, true, true, true, true, true, true, true, true, true, true, true, true, true, true, true, true, true, true, true, true, true, true, true, true, true, true, true, true, false, false, false, false, false] rfl rfl (any_of HT_.out (by kernel_rfl)) (fun _ _ _ h => h) (Or.inl ⟨by rfl, ?_⟩) ?_ ?_
    rotate_left
    · intro w'
      go_simp
      with_reducible rfl
    rotate_left
    · simp only [Act.put, List.setIfInBounds_toArray, List.set_cons_zero, List.set_cons_succ]
      rfl
    refine take_ (i := 31) (N := (some 73)) (v := .agg x.cells) #[true, true, true, true, true, true, true, true, true, true, true, true, true, true, true, true, true, true, true, true, true, true, true, true, true, true, true, true, true, true, true, true, false, false, false, false] rfl rfl (take_of HT_.out (by kernel_rfl)) (fun _ _ _ h => h) (Or.inl ⟨by rfl, fun w' hw' => ex_load (hw'.x.load66 hxo.n) rfl rfl⟩) hHeld rfl ?_
    refine norm_ (a' := ?_) ?_ ?_
    rotate_left
    · show Act.put _ (some 73) _ = _
      simp only [Act.put, List.setIfInBounds_toArray, List.set_cons_zero, List.set_cons_succ]
      rfl
    refine take_ (i := 32) (N := (some 74)) (v := .agg y.cells) #[true, true, true, true, true, true, true, true, true, true, true, true, true, true, true, true, true, true, true, true, true, true, true, true, true, true, true, true, true, true, true, true, true, false, false, false] rfl rfl (take_of HT_.out (by kernel_rfl)) (fun _ _ _ h => h) (Or.inl ⟨by rfl, fun w' hw' => ex_load (hw'.y.load66 hyo.n) rfl rfl⟩) hHeld rfl ?_
    refine norm_ (a' := ?_) ?_ ?_
    rotate_left
    · show Act.put _ (some 74) _ = _
      simp only [Act.put, List.setIfInBounds_toArray, List.set_cons_zero, List.set_cons_succ]
      rfl
    refine pure_ (i := 33) (N := (some 75)) (v := .bool (recEq x y)) #[true, true, true, true, true, true, true, true, true, true, true, true, true, true, true, true, true, true, true, true, true, true, true, true, true, true, true, true, true, true, true, true, true, true, false, false] rfl rfl (any_of HT_.out (by kernel_rfl)) (fun _ _ _ h => h) (Or.inl ⟨by rfl, fun w' => ex_bin (eql66 x y hxo.n hyo.n w') rfl rfl rfl (run_eqGuard_agg _ _ _ _ _ _ _ noGuard66)⟩) rfl ?_
    refine norm_ (a' := ?_) ?_ ?_
    rotate_left
    · show Act.put _ (some 75) _ = _
      simp only [Act.put, List.setIfInBounds_toArray, List.set_cons_zero, List.set_cons_succ]
      rfl
    refine pure_ (i := 34) (N := (some 76)) (v := ?_) (a' := ?_) #[true, true, true, true, true, true, true, true, true, true, true, true, true, true, true, true, true, true, true, true, true, true, true, true, true, true, true, true, true, true, true, true, true, true, true, false] rfl rfl (any_of HT_.out (by kernel_rfl)) (fun _ _ _ h => h) (Or.inl ⟨by rfl, ?_⟩) ?_ ?_
    rotate_left
    · intro w'
      go_simp
      with_reducible rfl
    rotate_left
    · simp only [Act.put, List.setIfInBounds_toArray, List.set_cons_zero, List.set_cons_succ]
      rfl
    refine pure_ (i := 35) (N := (some 77)) (v := ?_) (a' := ?_) #[true, true, true, true, true, true, true, true, true, true, true, true, true, true, true, true, true, true, true, true, true, true, true, true, true, true, true, true, true, true, true, true, true, true, true, true] rfl rfl (any_of HT_.out (by kernel_rfl)) (fun _ _ _ h => h) (Or.inl ⟨by rfl, ?_⟩) ?_ ?_
    rotate_left
    · intro w'
      go_simp
      with_reducible rfl
    rotate_left
    · simp only [Act.put, List.setIfInBounds_toArray, List.set_cons_zero, List.set_cons_succ]
      rfl
    refine done_ (done_of HT_.out (by kernel_rfl)) ?_
    clear HT_ HW_ hst hHeld
    obtain ⟨k, hk1, hk2⟩ := place_of at1 64 4 (by omega) (by omega) (by omega)
    have hk3 : k + 4 ≤ 64 := by omega
    have hk4 : (wrap64 (at1.tmod 61 + 61)).tmod 61 = (k : Int) := hk2
    have Hk4 := Lib.hid hk4
    have Hk3 := Lib.hid hk3
    clear hk1 hk2 hk4
    go_wp2_with fail
    rw [Hk4.out]
    obtain ⟨hb7, ho7⟩ := Hk.out
    clear Hk
    go_loopw [18] (fun i wr => ∃ j : Nat, j ≤ 4 ∧ i = .int .i64 j ∧ OB wr w.heap.size (.slice (some ⟨gb, 0, none⟩) 64 cb) (turnN turn k j L1) ∧ Below w.heap.size w wr) (fun i _ => 4 - (intOf i).toNat)
    case atStart => exact ⟨0, Nat.zero_le _, rfl, ho7, hb7⟩
    case round =>
      obtain ⟨j, hj, rfl, hor, hbr⟩ := hrel
      by_cases hlt : j < 4
      · have hlen := (turnN_length turn k L1 j).trans Hlen.out
        have hc := hor.cell (k + j) (by rw [hlen]; omega)
        have hf := hor.free (k + j)
        have hcb2 : 0 ≤ (turnN turn k j L1)[k + j]?.getD 0 ∧ (turnN turn k j L1)[k + j]?.getD 0 < 256 := by
          rw [List.getElem?_eq_getElem (by rw [hlen]; omega)]
          exact hor.2 _ (List.getElem_mem _)
        generalize hcv : (turnN turn k j L1)[k + j]?.getD 0 = c at hc hcb2
        have Hc := Lib.hid hcv
        have Hlen2 := Lib.hid hlen
        clear hcv hlen
        go_wp2_with fail
        go_region
        go_wp2
        go_roundw
        case rel =>
          refine ⟨j + 1, by omega, by go_num, ?_, (hbr.setCell Hgb.out _).drew⟩
          have hs := hor.set (k + j) (by rw [Hlen2.out]; omega) (x8 c (Crc.byteOf turn j)) (x8_byte c _ hcb2 (Crc.byteOf_byte _ _))
          rw [← Hc.out] at hs
          rw [← Hc.out]
          exact OB.drew hs
        case measure => simp [intOf]; omega
      · have h4 : j = 4 := by omega
        subst h4
        have Ht8 := Lib.hid (Ht.out.below hbr)
        go_wp2_with fail
        refine (decode_any _ (turnN turn k 4 L1) _ hor.reads Ht8.out).mono ?_
        have hTn := decV_n (turnN turn k 4 L1)
        rw [Htold.out k Hk3.out]
        obtain ⟨X, hX⟩ : ∃ X, decV (turnN turn k 4 L1) = X := ⟨_, rfl⟩
        rw [hX] at hTn ⊢
        clear hX
        rintro e w8 ⟨rfl, hb8⟩
        have hv8 := var_made 66 w8 X
        have HZ8 := Lib.hid (At.new 66 w8 Rec.zero)
        have Hb8 := Lib.hid (below_then hbr (below_then hb8 hv8.2))
        clear hv8 hb8
        go_upto_region 15 with (first
          | (refine go_value (o := ⟨_, .alloc 66, _, _, _, _⟩) (by rfl) (ex_alloc (run_alloc66 _) rfl) ?_)
          | (refine go_skip (o := ⟨none, .store 66 _ _, _, _, _, _⟩) (by rfl) (ex_store (HZ8.out.store66 zero_n (s := X) hTn) rfl rfl rfl) ?_)
          | fail)
        by_cases h0 : turn = 0
        · subst h0
          go_wp2_with fail
          go_ret
          exact ⟨rfl, Hb8.out⟩
        · rw [if_neg h0]
          have h01 : (turn == 0) = false := by simpa using h0
          have h02 : decide (turn = 0) = false := by simpa using h0
          go_wp2_with fail
          go_ret
          exact ⟨rfl, Hb8.out⟩
theorem recordBack_walk (v : Value) (r : Rec) (u : Value) (s : Rec) (at1 turn : Int) (w : World) (hv : v = .agg r.cells ∧ r.ok) (hu : u = .agg s.cells ∧ s.ok) (hat : -9223372036854775808 ≤ at1 ∧ at1 ≤ 9223372036854775807) (htu : 0 ≤ turn ∧ turn < 4294967296) (ht : Tab w) :
    Calls Tryd.prog 14 #[v, u, .int .i64 at1, .int .u32 turn] w fun e w' => e = .returned (.bool true) ∧ Below w.heap.size w w' := by
  obtain ⟨rfl, hr⟩ := hv
  obtain ⟨rfl, hs⟩ := hu
  exact recordBack_rec r s at1 turn w hr hs hat htu ht
end Go.Proofs.YtblfmofhfbbmdaaDoor
