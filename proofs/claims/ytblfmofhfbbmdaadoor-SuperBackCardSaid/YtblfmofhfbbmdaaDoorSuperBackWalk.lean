/- The walk of the law SuperBack: it returns true, and nothing that was there has turned. -/
import Derived.Test.YtblfmofhfbbmdaaDoorSuperDecodesWalk
import Derived.Test.YtblfmofhfbbmdaaDoorSup3
set_option linter.unusedVariables false
set_option linter.unusedSimpArgs false
namespace Go.Proofs.YtblfmofhfbbmdaaDoor
open Go.RowKit Crc Go.Proofs.YtblfmofhfbbmdaaDoorW.PrintWords Go.Proofs.YtblfmofhfbbmdaaDoorW.PrintLast

structure S19 (ga gb : Nat) (r s : Sup) (w : World) : Prop where
  a : SAt 51 w ga r
  b : SAt 51 w gb s
theorem S19.below {ga gb : Nat} {r s : Sup} {w w' : World} (h : S19 ga gb r s w) (hb : Below w.heap.size w w') : S19 ga gb r s w' := ⟨h.a.below hb, h.b.below hb⟩
structure S196 (gx gy : Nat) (x y : Sup) (u v : Value) (L1 L2 : List Int) (w : World) : Prop where
  x : SAt 54 w gx x
  y : SAt 54 w gy y
  m : RBy w u L1
  n : RBy w v L2
theorem S196.below {gx gy : Nat} {x y : Sup} {u v : Value} {L1 L2 : List Int} {w w' : World} (h : S196 gx gy x y u v L1 L2 w) (hb : Below w.heap.size w w') : S196 gx gy x y u v L1 L2 w' :=
  ⟨h.x.below hb, h.y.below hb, h.m.below hb, h.n.below hb⟩
def T19_3 : Bool × List (List Nat × List Nat) := (true, [([], []), ([0], [0]), ([], []), ([2, 1], [2]), ([], []), ([], []), ([4, 1, 3, 0, 1, 4, 5], [1, 4]), ([5, 3, 6, 0, 1, 2, 3, 4, 5, 6], [3, 5])])
def B19_3 : List Nat := [0, 1, 0, 7, 0, 0, 63, 127]
theorem tab19_3 : rtab .any (opsOf Tryd.f19 3) = T19_3 := by kernel_rfl
theorem bits19_3 : waitsOk T19_3.2 B19_3 = true := by kernel_rfl
def T19_6 : Bool × List (List Nat × List Nat) := (true, [([], []), ([0], [0]), ([1], [1]), ([2, 1], [2]), ([3], [3]), ([4, 3, 3], [3, 4]), ([5, 3], [3, 5]), ([3, 6], [3, 6]), ([7, 5], [7]), ([8], [8]), ([9, 8], [8, 9]), ([10, 8], [8, 10]), ([8, 11], [8, 11]), ([12, 8], [12]), ([13], [13]), ([14, 13], [13, 14]), ([13], [13]), ([16, 13], [13, 16]), ([15, 17, 13], [13, 15, 17]), ([13], [13]), ([13], [13]), ([19, 20, 13], [13, 19, 20]), ([18, 21, 13], [13, 18, 21]), ([13, 22], [13, 22])])
def B19_6 : List Nat := [0, 1, 3, 7, 15, 31, 63, 127, 255, 511, 1023, 2047, 4095, 8191, 16383, 32767, 16383, 81919, 262143, 16383, 16383, 1589247, 4194303, 8388607]
theorem tab19_6 : rtab .any (opsOf Tryd.f19 6) = T19_6 := by kernel_rfl
theorem bits19_6 : waitsOk T19_6.2 B19_6 = true := by kernel_rfl
set_option maxRecDepth 100000 in
set_option maxHeartbeats 8000000 in
theorem superBack_sup (r s : Sup) (v : Value) (b : List Int) (w : World) (hr : r.ok) (hs : s.ok) (hv : RBy w v b) (hbl : b.length ≤ reachBytes) (ht : Tabs w) :
    Calls Tryd.prog 19 #[.agg r.cells, .agg s.cells, v] w fun e w' => e = .returned (.bool true) ∧ Below w.heap.size w w' := by
  have Ht := Lib.hid ht.1
  have Hw := Lib.hid ht.2
  have Hv := Lib.hid hv
  have HbB : Hid (IsB b) := Lib.hid hv.isB
  obtain ⟨A, c, rfl, hc⟩ := hv.form
  have hbl2 : b.length ≤ 140737488355320 := by unfold reachBytes at hbl; omega
  have HA := Lib.hid ((SAt.new 51 w r).below (below_alloc (Below.refl _ _) (.cells s.cells 51)))
  have hz := SAt.new 51 (w.alloc (.cells r.cells 51)) s
  rw [World.size_alloc] at hz
  have HB := Lib.hid hz
  have hb0 := Lib.hid (below_alloc (below_alloc (Below.refl w.heap.size w) (.cells r.cells 51)) (.cells s.cells 51))
  have hxk := mayS_sup r
  have hyk := mayS_sup s
  have hxo := mayS_ok r
  have hyo := mayS_ok s
  obtain ⟨x, hxe⟩ : ∃ x, mayS r = x := ⟨_, rfl⟩
  obtain ⟨y, hye⟩ : ∃ y, mayS s = y := ⟨_, rfl⟩
  rw [hxe] at hxk hxo
  rw [hye] at hyk hyo
  have Hxe := Lib.hid hxe
  have Hye := Lib.hid hye
  clear hz ht hv hbl hxe hye
  go_enter Tryd.func19, Tryd.ntmps19
  go_wp2_with fail
  refine (awake_any _ (Ht.out.below hb0.out) (Hw.out.below hb0.out)).mono ?_
  rintro e w1 ⟨rfl, hb1⟩
  have hS0 : S19 w.heap.size (w.heap.size + 1) r s w1.drew := (S19.mk (HA.out.below hb1) (HB.out.below hb1)).below (below_drew (Below.refl _ _))
  have hB := below_drew (below_then hb0.out hb1)
  clear hb1 HA HB hb0
  go_upto_region 3 with fail
  go_cut [7, 8] from 9 (fun s7 s8 wx => ∃ (gx gy : Nat), s7 = .pointer (some ⟨gx, 0, none⟩) ∧ s8 = .pointer (some ⟨gy, 0, none⟩) ∧ Hid (SAt 54 wx gx x) ∧ Hid (SAt 54 wx gy y) ∧ Hid (Below w.heap.size w wx))
  case first =>
    refine start_ (n := 8) (S := S19 w.heap.size (w.heap.size + 1) r s) (ds := [6, 7]) #[false, false, false, false, false, false, false, false] (by kernel_rfl) rfl rfl (hS0) (fun hHeld => ?_); refine with_tabW tab19_3 bits19_3 (fun HT_ HW_ => ?_)
    clear hS0
    generalize w1.drew = w3 at hB hHeld ⊢
    refine take_ (i := 0) (N := (some 19)) (v := .agg r.cells) #[true, false, false, false, false, false, false, false] rfl rfl (take_of HT_.out (by kernel_rfl)) (fun _ _ _ h => h) (Or.inl ⟨by rfl, fun w' hw' => ex_load (hw'.a.load51) rfl rfl⟩) hHeld rfl ?_
    refine norm_ (a' := ?_) ?_ ?_
    rotate_left
    · show Act.put _ (some 19) _ = _
      simp only [Act.put, List.setIfInBounds_toArray, List.set_cons_zero, List.set_cons_succ]
      rfl
    refine take_ (i := 2) (N := (some 21)) (v := .agg s.cells) #[true, false, true, false, false, false, false, false] rfl rfl (take_of HT_.out (by kernel_rfl)) (fun _ _ _ h => h) (Or.inl ⟨by rfl, fun w' hw' => ex_load (hw'.b.load51) rfl rfl⟩) hHeld rfl ?_
    refine norm_ (a' := ?_) ?_ ?_
    rotate_left
    · show Act.put _ (some 21) _ = _
      simp only [Act.put, List.setIfInBounds_toArray, List.set_cons_zero, List.set_cons_succ]
      rfl
    refine three_ (i := 1) (j := 4) (k := 5) (Ni := (some 20)) (Nj := (some 7)) (Nk := (some 8)) #[true, true, true, false, false, false, false, false] #[true, false, true, false, true, false, false, false] #[true, false, true, false, false, true, false, false] rfl rfl rfl rfl rfl rfl (three_of HT_.out (by kernel_rfl)) (by decide) (by decide) (by decide) (fun K hK => ?_) (fun K hK => ?_) (fun K hK => ?_)
    · skip
      refine call_ 33 #[.agg r.cells] (by rfl) rfl (by go_simp) ?_
      refine (may_any r _ hr).mono ?_
      rw [Hxe.out]
      rintro e wA ⟨rfl, hb⟩
      replace hB := below_then hB hb
      refine ⟨_, rfl, ?_⟩
      refine hK.out _ _ (hHeld.below hb) (fun hHeld => ?_)
      clear hK K
      refine norm_ (a' := ?_) ?_ ?_
      rotate_left
      · show Act.put _ (some 20) _ = _
        simp only [Act.put, List.setIfInBounds_toArray, List.set_cons_zero, List.set_cons_succ]
        rfl
      clear hb
      refine three_ (i := 3) (j := 4) (k := 5) (Ni := (some 22)) (Nj := (some 7)) (Nk := (some 8)) #[true, true, true, true, false, false, false, false] #[true, true, true, false, true, false, false, false] #[true, true, true, false, false, true, false, false] rfl rfl rfl rfl rfl rfl (three_of HT_.out (by kernel_rfl)) (by decide) (by decide) (by decide) (fun K hK => ?_) (fun K hK => ?_) (fun K hK => ?_)
      · skip
        refine call_ 33 #[.agg s.cells] (by rfl) rfl (by go_simp) ?_
        refine (may_any s _ hs).mono ?_
        rw [Hye.out]
        rintro e wB ⟨rfl, hb⟩
        replace hB := below_then hB hb
        refine ⟨_, rfl, ?_⟩
        refine hK.out _ _ (hHeld.below hb) (fun hHeld => ?_)
        clear hK K
        refine norm_ (a' := ?_) ?_ ?_
        rotate_left
        · show Act.put _ (some 22) _ = _
          simp only [Act.put, List.setIfInBounds_toArray, List.set_cons_zero, List.set_cons_succ]
          rfl
        clear hb
        refine two_ (i := 4) (j := 5) (Ni := (some 7)) (Nj := (some 8)) #[true, true, true, true, true, false, false, false] #[true, true, true, true, false, true, false, false] rfl rfl rfl rfl (two_of HT_.out (by kernel_rfl)) (by decide) (by decide) (fun K hK => ?_) (fun K hK => ?_)
        · skip
          have hz9 := SAt.new 54 (wB) Sup.zero
          have hle_z9 := hB.size
          replace hB := below_alloc hB (.cells Sup.zero.cells 54)
          refine value_ (by rfl) rfl (ex_alloc (run_alloc54 _) rfl) ?_
          refine hK.out _ _ (hHeld.below (below_alloc (Below.refl _ _) (.cells Sup.zero.cells 54))) (fun hHeld => ?_)
          clear hK K
          refine norm_ (a' := ?_) ?_ ?_
          rotate_left
          · show Act.put _ (some 7) _ = _
            simp only [Act.put, List.setIfInBounds_toArray, List.set_cons_zero, List.set_cons_succ]
            rfl
          refine one_ (i := 5) (N := (some 8)) #[true, true, true, true, true, true, false, false] rfl rfl (one_of HT_.out (by kernel_rfl)) (by decide) (fun K hK => ?_)
          have hz10 := SAt.new 54 ((wB).alloc (.cells Sup.zero.cells 54)) Sup.zero
          have hlt := hz9.lt
          replace hz9 := SAt.below hz9 (below_alloc (Below.refl _ _) (.cells Sup.zero.cells 54))
          have hle_z10 := hB.size
          replace hB := below_alloc hB (.cells Sup.zero.cells 54)
          refine value_ (by rfl) rfl (ex_alloc (run_alloc54 _) rfl) ?_
          refine hK.out _ _ (hHeld.below (below_alloc (Below.refl _ _) (.cells Sup.zero.cells 54))) (fun hHeld => ?_)
          clear hK K
          refine norm_ (a' := ?_) ?_ ?_
          rotate_left
          · show Act.put _ (some 8) _ = _
            simp only [Act.put, List.setIfInBounds_toArray, List.set_cons_zero, List.set_cons_succ]
            rfl
          refine last_ (i := 6) (N := none) #[true, true, true, true, true, true, true, false] rfl rfl (one_of HT_.out (by kernel_rfl)) (by decide) (fun K hK => ?_)
          have hxs := hz9.set (s := x)
          have hxr := hle_z9
          have hBn := Below.setRow' hB (show w.heap.size ≤ (wB).heap.size by omega) x.cells
          refine skip_ (by rfl) rfl (ex_store (hz9.store54 (s := x)) rfl rfl rfl) ?_
          refine hK.out _ _ ?_
          clear hK K
          have hoth := SAt.set_other (cs := x.cells) hz10 (Nat.ne_of_gt hlt)
          replace hz10 := hoth
          clear hoth
          replace hB := hBn
          clear hBn
          replace hz9 := hxs
          refine last_ (i := 7) (N := none) #[true, true, true, true, true, true, true, true] rfl rfl (one_of HT_.out (by kernel_rfl)) (by decide) (fun K hK => ?_)
          have hys := hz10.set (s := y)
          have hyr := hle_z10
          have hBn := Below.setRow' hB (show w.heap.size ≤ ((wB).alloc (.cells Sup.zero.cells 54)).heap.size by omega) y.cells
          refine skip_ (by rfl) rfl (ex_store (hz10.store54 (s := y)) rfl rfl rfl) ?_
          refine hK.out _ _ ?_
          clear hK K
          have hoth := SAt.set_other (cs := y.cells) hz9 (Nat.ne_of_lt hlt)
          replace hz9 := hoth
          clear hoth
          replace hB := hBn
          clear hBn
          replace hz10 := hys
          refine done_ (done_of HT_.out (by kernel_rfl)) ?_
          clear HT_ HW_
          have Hz9 := Lib.hid hz9
          have Hz10 := Lib.hid hz10
          have HBB := Lib.hid hB
          clear hz9 hz10 hB
          go_wp2_with fail
          go_meet
          case rel => exact ⟨_, _, rfl, rfl, Hz9, Hz10, HBB⟩
        · skip
          have hz10 := SAt.new 54 (wB) Sup.zero
          have hle_z10 := hB.size
          replace hB := below_alloc hB (.cells Sup.zero.cells 54)
          refine value_ (by rfl) rfl (ex_alloc (run_alloc54 _) rfl) ?_
          refine hK.out _ _ (hHeld.below (below_alloc (Below.refl _ _) (.cells Sup.zero.cells 54))) (fun hHeld => ?_)
          clear hK K
          refine norm_ (a' := ?_) ?_ ?_
          rotate_left
          · show Act.put _ (some 8) _ = _
            simp only [Act.put, List.setIfInBounds_toArray, List.set_cons_zero, List.set_cons_succ]
            rfl
          refine one_ (i := 4) (N := (some 7)) #[true, true, true, true, true, true, false, false] rfl rfl (one_of HT_.out (by kernel_rfl)) (by decide) (fun K hK => ?_)
          have hz9 := SAt.new 54 ((wB).alloc (.cells Sup.zero.cells 54)) Sup.zero
          have hlt := hz10.lt
          replace hz10 := SAt.below hz10 (below_alloc (Below.refl _ _) (.cells Sup.zero.cells 54))
          have hle_z9 := hB.size
          replace hB := below_alloc hB (.cells Sup.zero.cells 54)
          refine value_ (by rfl) rfl (ex_alloc (run_alloc54 _) rfl) ?_
          refine hK.out _ _ (hHeld.below (below_alloc (Below.refl _ _) (.cells Sup.zero.cells 54))) (fun hHeld => ?_)
          clear hK K
          refine norm_ (a' := ?_) ?_ ?_
          rotate_left
          · show Act.put _ (some 7) _ = _
            simp only [Act.put, List.setIfInBounds_toArray, List.set_cons_zero, List.set_cons_succ]
            rfl
          refine last_ (i := 6) (N := none) #[true, true, true, true, true, true, true, false] rfl rfl (one_of HT_.out (by kernel_rfl)) (by decide) (fun K hK => ?_)
          have hxs := hz9.set (s := x)
          have hxr := hle_z9
          have hBn := Below.setRow' hB (show w.heap.size ≤ ((wB).alloc (.cells Sup.zero.cells 54)).heap.size by omega) x.cells
          refine skip_ (by rfl) rfl (ex_store (hz9.store54 (s := x)) rfl rfl rfl) ?_
          refine hK.out _ _ ?_
          clear hK K
          have hoth := SAt.set_other (cs := x.cells) hz10 (Nat.ne_of_lt hlt)
          replace hz10 := hoth
          clear hoth
          replace hB := hBn
          clear hBn
          replace hz9 := hxs
          refine last_ (i := 7) (N := none) #[true, true, true, true, true, true, true, true] rfl rfl (one_of HT_.out (by kernel_rfl)) (by decide) (fun K hK => ?_)
          have hys := hz10.set (s := y)
          have hyr := hle_z10
          have hBn := Below.setRow' hB (show w.heap.size ≤ (wB).heap.size by omega) y.cells
          refine skip_ (by rfl) rfl (ex_store (hz10.store54 (s := y)) rfl rfl rfl) ?_
          refine hK.out _ _ ?_
          clear hK K
          have hoth := SAt.set_other (cs := y.cells) hz9 (Nat.ne_of_gt hlt)
          replace hz9 := hoth
          clear hoth
          replace hB := hBn
          clear hBn
          replace hz10 := hys
          refine done_ (done_of HT_.out (by kernel_rfl)) ?_
          clear HT_ HW_
          have Hz9 := Lib.hid hz9
          have Hz10 := Lib.hid hz10
          have HBB := Lib.hid hB
          clear hz9 hz10 hB
          go_wp2_with fail
          go_meet
          case rel => exact ⟨_, _, rfl, rfl, Hz9, Hz10, HBB⟩
      · skip
        have hz9 := SAt.new 54 (wA) Sup.zero
        have hle_z9 := hB.size
        replace hB := below_alloc hB (.cells Sup.zero.cells 54)
        refine value_ (by rfl) rfl (ex_alloc (run_alloc54 _) rfl) ?_
        refine hK.out _ _ (hHeld.below (below_alloc (Below.refl _ _) (.cells Sup.zero.cells 54))) (fun hHeld => ?_)
        clear hK K
        refine norm_ (a' := ?_) ?_ ?_
        rotate_left
        · show Act.put _ (some 7) _ = _
          simp only [Act.put, List.setIfInBounds_toArray, List.set_cons_zero, List.set_cons_succ]
          rfl
        refine two_ (i := 3) (j := 5) (Ni := (some 22)) (Nj := (some 8)) #[true, true, true, true, true, false, false, false] #[true, true, true, false, true, true, false, false] rfl rfl rfl rfl (two_of HT_.out (by kernel_rfl)) (by decide) (by decide) (fun K hK => ?_) (fun K hK => ?_)
        · skip
          refine call_ 33 #[.agg s.cells] (by rfl) rfl (by go_simp) ?_
          refine (may_any s _ hs).mono ?_
          rw [Hye.out]
          rintro e wB ⟨rfl, hb⟩
          replace hB := below_then hB hb
          replace hz9 := SAt.below hz9 hb
          refine ⟨_, rfl, ?_⟩
          refine hK.out _ _ (hHeld.below hb) (fun hHeld => ?_)
          clear hK K
          refine norm_ (a' := ?_) ?_ ?_
          rotate_left
          · show Act.put _ (some 22) _ = _
            simp only [Act.put, List.setIfInBounds_toArray, List.set_cons_zero, List.set_cons_succ]
            rfl
          clear hb
          refine one_ (i := 5) (N := (some 8)) #[true, true, true, true, true, true, false, false] rfl rfl (one_of HT_.out (by kernel_rfl)) (by decide) (fun K hK => ?_)
          have hz10 := SAt.new 54 (wB) Sup.zero
          have hlt := hz9.lt
          replace hz9 := SAt.below hz9 (below_alloc (Below.refl _ _) (.cells Sup.zero.cells 54))
          have hle_z10 := hB.size
          replace hB := below_alloc hB (.cells Sup.zero.cells 54)
          refine value_ (by rfl) rfl (ex_alloc (run_alloc54 _) rfl) ?_
          refine hK.out _ _ (hHeld.below (below_alloc (Below.refl _ _) (.cells Sup.zero.cells 54))) (fun hHeld => ?_)
          clear hK K
          refine norm_ (a' := ?_) ?_ ?_
          rotate_left
          · show Act.put _ (some 8) _ = _
            simp only [Act.put, List.setIfInBounds_toArray, List.set_cons_zero, List.set_cons_succ]
            rfl
          refine last_ (i := 6) (N := none) #[true, true, true, true, true, true, true, false] rfl rfl (one_of HT_.out (by kernel_rfl)) (by decide) (fun K hK => ?_)
          have hxs := hz9.set (s := x)
          have hxr := hle_z9
          have hBn := Below.setRow' hB (show w.heap.size ≤ (wA).heap.size by omega) x.cells
          refine skip_ (by rfl) rfl (ex_store (hz9.store54 (s := x)) rfl rfl rfl) ?_
          refine hK.out _ _ ?_
          clear hK K
          have hoth := SAt.set_other (cs := x.cells) hz10 (Nat.ne_of_gt hlt)
          replace hz10 := hoth
          clear hoth
          replace hB := hBn
          clear hBn
          replace hz9 := hxs
          refine last_ (i := 7) (N := none) #[true, true, true, true, true, true, true, true] rfl rfl (one_of HT_.out (by kernel_rfl)) (by decide) (fun K hK => ?_)
          have hys := hz10.set (s := y)
          have hyr := hle_z10
          have hBn := Below.setRow' hB (show w.heap.size ≤ (wB).heap.size by omega) y.cells
          refine skip_ (by rfl) rfl (ex_store (hz10.store54 (s := y)) rfl rfl rfl) ?_
          refine hK.out _ _ ?_
          clear hK K
          have hoth := SAt.set_other (cs := y.cells) hz9 (Nat.ne_of_lt hlt)
          replace hz9 := hoth
          clear hoth
          replace hB := hBn
          clear hBn
          replace hz10 := hys
          refine done_ (done_of HT_.out (by kernel_rfl)) ?_
          clear HT_ HW_
          have Hz9 := Lib.hid hz9
          have Hz10 := Lib.hid hz10
          have HBB := Lib.hid hB
          clear hz9 hz10 hB
          go_wp2_with fail
          go_meet
          case rel => exact ⟨_, _, rfl, rfl, Hz9, Hz10, HBB⟩
        · skip
          have hz10 := SAt.new 54 ((wA).alloc (.cells Sup.zero.cells 54)) Sup.zero
          have hlt := hz9.lt
          replace hz9 := SAt.below hz9 (below_alloc (Below.refl _ _) (.cells Sup.zero.cells 54))
          have hle_z10 := hB.size
          replace hB := below_alloc hB (.cells Sup.zero.cells 54)
          refine value_ (by rfl) rfl (ex_alloc (run_alloc54 _) rfl) ?_
          refine hK.out _ _ (hHeld.below (below_alloc (Below.refl _ _) (.cells Sup.zero.cells 54))) (fun hHeld => ?_)
          clear hK K
          refine norm_ (a' := ?_) ?_ ?_
          rotate_left
          · show Act.put _ (some 8) _ = _
            simp only [Act.put, List.setIfInBounds_toArray, List.set_cons_zero, List.set_cons_succ]
            rfl
          refine one_ (i := 3) (N := (some 22)) #[true, true, true, true, true, true, false, false] rfl rfl (one_of HT_.out (by kernel_rfl)) (by decide) (fun K hK => ?_)
          refine call_ 33 #[.agg s.cells] (by rfl) rfl (by go_simp) ?_
          refine (may_any s _ hs).mono ?_
          rw [Hye.out]
          rintro e wB ⟨rfl, hb⟩
          replace hB := below_then hB hb
          replace hz9 := SAt.below hz9 hb
          replace hz10 := SAt.below hz10 hb
          refine ⟨_, rfl, ?_⟩
          refine hK.out _ _ (hHeld.below hb) (fun hHeld => ?_)
          clear hK K
          refine norm_ (a' := ?_) ?_ ?_
          rotate_left
          · show Act.put _ (some 22) _ = _
            simp only [Act.put, List.setIfInBounds_toArray, List.set_cons_zero, List.set_cons_succ]
            rfl
          clear hb
          refine last_ (i := 6) (N := none) #[true, true, true, true, true, true, true, false] rfl rfl (one_of HT_.out (by kernel_rfl)) (by decide) (fun K hK => ?_)
          have hxs := hz9.set (s := x)
          have hxr := hle_z9
          have hBn := Below.setRow' hB (show w.heap.size ≤ (wA).heap.size by omega) x.cells
          refine skip_ (by rfl) rfl (ex_store (hz9.store54 (s := x)) rfl rfl rfl) ?_
          refine hK.out _ _ ?_
          clear hK K
          have hoth := SAt.set_other (cs := x.cells) hz10 (Nat.ne_of_gt hlt)
          replace hz10 := hoth
          clear hoth
          replace hB := hBn
          clear hBn
          replace hz9 := hxs
          refine last_ (i := 7) (N := none) #[true, true, true, true, true, true, true, true] rfl rfl (one_of HT_.out (by kernel_rfl)) (by decide) (fun K hK => ?_)
          have hys := hz10.set (s := y)
          have hyr := hle_z10
          have hBn := Below.setRow' hB (show w.heap.size ≤ ((wA).alloc (.cells Sup.zero.cells 54)).heap.size by omega) y.cells
          refine skip_ (by rfl) rfl (ex_store (hz10.store54 (s := y)) rfl rfl rfl) ?_
          refine hK.out _ _ ?_
          clear hK K
          have hoth := SAt.set_other (cs := y.cells) hz9 (Nat.ne_of_lt hlt)
          replace hz9 := hoth
          clear hoth
          replace hB := hBn
          clear hBn
          replace hz10 := hys
          refine done_ (done_of HT_.out (by kernel_rfl)) ?_
          clear HT_ HW_
          have Hz9 := Lib.hid hz9
          have Hz10 := Lib.hid hz10
          have HBB := Lib.hid hB
          clear hz9 hz10 hB
          go_wp2_with fail
          go_meet
          case rel => exact ⟨_, _, rfl, rfl, Hz9, Hz10, HBB⟩
      · skip
        have hz10 := SAt.new 54 (wA) Sup.zero
        have hle_z10 := hB.size
        replace hB := below_alloc hB (.cells Sup.zero.cells 54)
        refine value_ (by rfl) rfl (ex_alloc (run_alloc54 _) rfl) ?_
        refine hK.out _ _ (hHeld.below (below_alloc (Below.refl _ _) (.cells Sup.zero.cells 54))) (fun hHeld => ?_)
        clear hK K
        refine norm_ (a' := ?_) ?_ ?_
        rotate_left
        · show Act.put _ (some 8) _ = _
          simp only [Act.put, List.setIfInBounds_toArray, List.set_cons_zero, List.set_cons_succ]
          rfl
        refine two_ (i := 3) (j := 4) (Ni := (some 22)) (Nj := (some 7)) #[true, true, true, true, false, true, false, false] #[true, true, true, false, true, true, false, false] rfl rfl rfl rfl (two_of HT_.out (by kernel_rfl)) (by decide) (by decide) (fun K hK => ?_) (fun K hK => ?_)
        · skip
          refine call_ 33 #[.agg s.cells] (by rfl) rfl (by go_simp) ?_
          refine (may_any s _ hs).mono ?_
          rw [Hye.out]
          rintro e wB ⟨rfl, hb⟩
          replace hB := below_then hB hb
          replace hz10 := SAt.below hz10 hb
          refine ⟨_, rfl, ?_⟩
          refine hK.out _ _ (hHeld.below hb) (fun hHeld => ?_)
          clear hK K
          refine norm_ (a' := ?_) ?_ ?_
          rotate_left
          · show Act.put _ (some 22) _ = _
            simp only [Act.put, List.setIfInBounds_toArray, List.set_cons_zero, List.set_cons_succ]
            rfl
          clear hb
          refine one_ (i := 4) (N := (some 7)) #[true, true, true, true, true, true, false, false] rfl rfl (one_of HT_.out (by kernel_rfl)) (by decide) (fun K hK => ?_)
          have hz9 := SAt.new 54 (wB) Sup.zero
          have hlt := hz10.lt
          replace hz10 := SAt.below hz10 (below_alloc (Below.refl _ _) (.cells Sup.zero.cells 54))
          have hle_z9 := hB.size
          replace hB := below_alloc hB (.cells Sup.zero.cells 54)
          refine value_ (by rfl) rfl (ex_alloc (run_alloc54 _) rfl) ?_
          refine hK.out _ _ (hHeld.below (below_alloc (Below.refl _ _) (.cells Sup.zero.cells 54))) (fun hHeld => ?_)
          clear hK K
          refine norm_ (a' := ?_) ?_ ?_
          rotate_left
          · show Act.put _ (some 7) _ = _
            simp only [Act.put, List.setIfInBounds_toArray, List.set_cons_zero, List.set_cons_succ]
            rfl
          refine last_ (i := 6) (N := none) #[true, true, true, true, true, true, true, false] rfl rfl (one_of HT_.out (by kernel_rfl)) (by decide) (fun K hK => ?_)
          have hxs := hz9.set (s := x)
          have hxr := hle_z9
          have hBn := Below.setRow' hB (show w.heap.size ≤ (wB).heap.size by omega) x.cells
          refine skip_ (by rfl) rfl (ex_store (hz9.store54 (s := x)) rfl rfl rfl) ?_
          refine hK.out _ _ ?_
          clear hK K
          have hoth := SAt.set_other (cs := x.cells) hz10 (Nat.ne_of_lt hlt)
          replace hz10 := hoth
          clear hoth
          replace hB := hBn
          clear hBn
          replace hz9 := hxs
          refine last_ (i := 7) (N := none) #[true, true, true, true, true, true, true, true] rfl rfl (one_of HT_.out (by kernel_rfl)) (by decide) (fun K hK => ?_)
          have hys := hz10.set (s := y)
          have hyr := hle_z10
          have hBn := Below.setRow' hB (show w.heap.size ≤ (wA).heap.size by omega) y.cells
          refine skip_ (by rfl) rfl (ex_store (hz10.store54 (s := y)) rfl rfl rfl) ?_
          refine hK.out _ _ ?_
          clear hK K
          have hoth := SAt.set_other (cs := y.cells) hz9 (Nat.ne_of_gt hlt)
          replace hz9 := hoth
          clear hoth
          replace hB := hBn
          clear hBn
          replace hz10 := hys
          refine done_ (done_of HT_.out (by kernel_rfl)) ?_
          clear HT_ HW_
          have Hz9 := Lib.hid hz9
          have Hz10 := Lib.hid hz10
          have HBB := Lib.hid hB
          clear hz9 hz10 hB
          go_wp2_with fail
          go_meet
          case rel => exact ⟨_, _, rfl, rfl, Hz9, Hz10, HBB⟩
        · skip
          have hz9 := SAt.new 54 ((wA).alloc (.cells Sup.zero.cells 54)) Sup.zero
          have hlt := hz10.lt
          replace hz10 := SAt.below hz10 (below_alloc (Below.refl _ _) (.cells Sup.zero.cells 54))
          have hle_z9 := hB.size
          replace hB := below_alloc hB (.cells Sup.zero.cells 54)
          refine value_ (by rfl) rfl (ex_alloc (run_alloc54 _) rfl) ?_
          refine hK.out _ _ (hHeld.below (below_alloc (Below.refl _ _) (.cells Sup.zero.cells 54))) (fun hHeld => ?_)
          clear hK K
          refine norm_ (a' := ?_) ?_ ?_
          rotate_left
          · show Act.put _ (some 7) _ = _
            simp only [Act.put, List.setIfInBounds_toArray, List.set_cons_zero, List.set_cons_succ]
            rfl
          refine one_ (i := 3) (N := (some 22)) #[true, true, true, true, true, true, false, false] rfl rfl (one_of HT_.out (by kernel_rfl)) (by decide) (fun K hK => ?_)
          refine call_ 33 #[.agg s.cells] (by rfl) rfl (by go_simp) ?_
          refine (may_any s _ hs).mono ?_
          rw [Hye.out]
          rintro e wB ⟨rfl, hb⟩
          replace hB := below_then hB hb
          replace hz9 := SAt.below hz9 hb
          replace hz10 := SAt.below hz10 hb
          refine ⟨_, rfl, ?_⟩
          refine hK.out _ _ (hHeld.below hb) (fun hHeld => ?_)
          clear hK K
          refine norm_ (a' := ?_) ?_ ?_
          rotate_left
          · show Act.put _ (some 22) _ = _
            simp only [Act.put, List.setIfInBounds_toArray, List.set_cons_zero, List.set_cons_succ]
            rfl
          clear hb
          refine last_ (i := 6) (N := none) #[true, true, true, true, true, true, true, false] rfl rfl (one_of HT_.out (by kernel_rfl)) (by decide) (fun K hK => ?_)
          have hxs := hz9.set (s := x)
          have hxr := hle_z9
          have hBn := Below.setRow' hB (show w.heap.size ≤ ((wA).alloc (.cells Sup.zero.cells 54)).heap.size by omega) x.cells
          refine skip_ (by rfl) rfl (ex_store (hz9.store54 (s := x)) rfl rfl rfl) ?_
          refine hK.out _ _ ?_
          clear hK K
          have hoth := SAt.set_other (cs := x.cells) hz10 (Nat.ne_of_lt hlt)
          replace hz10 := hoth
          clear hoth
          replace hB := hBn
          clear hBn
          replace hz9 := hxs
          refine last_ (i := 7) (N := none) #[true, true, true, true, true, true, true, true] rfl rfl (one_of HT_.out (by kernel_rfl)) (by decide) (fun K hK => ?_)
          have hys := hz10.set (s := y)
          have hyr := hle_z10
          have hBn := Below.setRow' hB (show w.heap.size ≤ (wA).heap.size by omega) y.cells
          refine skip_ (by rfl) rfl (ex_store (hz10.store54 (s := y)) rfl rfl rfl) ?_
          refine hK.out _ _ ?_
          clear hK K
          have hoth := SAt.set_other (cs := y.cells) hz9 (Nat.ne_of_gt hlt)
          replace hz9 := hoth
          clear hoth
          replace hB := hBn
          clear hBn
          replace hz10 := hys
          refine done_ (done_of HT_.out (by kernel_rfl)) ?_
          clear HT_ HW_
          have Hz9 := Lib.hid hz9
          have Hz10 := Lib.hid hz10
          have HBB := Lib.hid hB
          clear hz9 hz10 hB
          go_wp2_with fail
          go_meet
          case rel => exact ⟨_, _, rfl, rfl, Hz9, Hz10, HBB⟩
    · skip
      have hz9 := SAt.new 54 (w3) Sup.zero
      have hle_z9 := hB.size
      replace hB := below_alloc hB (.cells Sup.zero.cells 54)
      refine value_ (by rfl) rfl (ex_alloc (run_alloc54 _) rfl) ?_
      refine hK.out _ _ (hHeld.below (below_alloc (Below.refl _ _) (.cells Sup.zero.cells 54))) (fun hHeld => ?_)
      clear hK K
      refine norm_ (a' := ?_) ?_ ?_
      rotate_left
      · show Act.put _ (some 7) _ = _
        simp only [Act.put, List.setIfInBounds_toArray, List.set_cons_zero, List.set_cons_succ]
        rfl
      refine two_ (i := 1) (j := 5) (Ni := (some 20)) (Nj := (some 8)) #[true, true, true, false, true, false, false, false] #[true, false, true, false, true, true, false, false] rfl rfl rfl rfl (two_of HT_.out (by kernel_rfl)) (by decide) (by decide) (fun K hK => ?_) (fun K hK => ?_)
      · skip
        refine call_ 33 #[.agg r.cells] (by rfl) rfl (by go_simp) ?_
        refine (may_any r _ hr).mono ?_
        rw [Hxe.out]
        rintro e wA ⟨rfl, hb⟩
        replace hB := below_then hB hb
        replace hz9 := SAt.below hz9 hb
        refine ⟨_, rfl, ?_⟩
        refine hK.out _ _ (hHeld.below hb) (fun hHeld => ?_)
        clear hK K
        refine norm_ (a' := ?_) ?_ ?_
        rotate_left
        · show Act.put _ (some 20) _ = _
          simp only [Act.put, List.setIfInBounds_toArray, List.set_cons_zero, List.set_cons_succ]
          rfl
        clear hb
        refine two_ (i := 3) (j := 5) (Ni := (some 22)) (Nj := (some 8)) #[true, true, true, true, true, false, false, false] #[true, true, true, false, true, true, false, false] rfl rfl rfl rfl (two_of HT_.out (by kernel_rfl)) (by decide) (by decide) (fun K hK => ?_) (fun K hK => ?_)
        · skip
          refine call_ 33 #[.agg s.cells] (by rfl) rfl (by go_simp) ?_
          refine (may_any s _ hs).mono ?_
          rw [Hye.out]
          rintro e wB ⟨rfl, hb⟩
          replace hB := below_then hB hb
          replace hz9 := SAt.below hz9 hb
          refine ⟨_, rfl, ?_⟩
          refine hK.out _ _ (hHeld.below hb) (fun hHeld => ?_)
          clear hK K
          refine norm_ (a' := ?_) ?_ ?_
          rotate_left
          · show Act.put _ (some 22) _ = _
            simp only [Act.put, List.setIfInBounds_toArray, List.set_cons_zero, List.set_cons_succ]
            rfl
          clear hb
          refine one_ (i := 5) (N := (some 8)) #[true, true, true, true, true, true, false, false] rfl rfl (one_of HT_.out (by kernel_rfl)) (by decide) (fun K hK => ?_)
          have hz10 := SAt.new 54 (wB) Sup.zero
          have hlt := hz9.lt
          replace hz9 := SAt.below hz9 (below_alloc (Below.refl _ _) (.cells Sup.zero.cells 54))
          have hle_z10 := hB.size
          replace hB := below_alloc hB (.cells Sup.zero.cells 54)
          refine value_ (by rfl) rfl (ex_alloc (run_alloc54 _) rfl) ?_
          refine hK.out _ _ (hHeld.below (below_alloc (Below.refl _ _) (.cells Sup.zero.cells 54))) (fun hHeld => ?_)
          clear hK K
          refine norm_ (a' := ?_) ?_ ?_
          rotate_left
          · show Act.put _ (some 8) _ = _
            simp only [Act.put, List.setIfInBounds_toArray, List.set_cons_zero, List.set_cons_succ]
            rfl
          refine last_ (i := 6) (N := none) #[true, true, true, true, true, true, true, false] rfl rfl (one_of HT_.out (by kernel_rfl)) (by decide) (fun K hK => ?_)
          have hxs := hz9.set (s := x)
          have hxr := hle_z9
          have hBn := Below.setRow' hB (show w.heap.size ≤ (w3).heap.size by omega) x.cells
          refine skip_ (by rfl) rfl (ex_store (hz9.store54 (s := x)) rfl rfl rfl) ?_
          refine hK.out _ _ ?_
          clear hK K
          have hoth := SAt.set_other (cs := x.cells) hz10 (Nat.ne_of_gt hlt)
          replace hz10 := hoth
          clear hoth
          replace hB := hBn
          clear hBn
          replace hz9 := hxs
          refine last_ (i := 7) (N := none) #[true, true, true, true, true, true, true, true] rfl rfl (one_of HT_.out (by kernel_rfl)) (by decide) (fun K hK => ?_)
          have hys := hz10.set (s := y)
          have hyr := hle_z10
          have hBn := Below.setRow' hB (show w.heap.size ≤ (wB).heap.size by omega) y.cells
          refine skip_ (by rfl) rfl (ex_store (hz10.store54 (s := y)) rfl rfl rfl) ?_
          refine hK.out _ _ ?_
          clear hK K
          have hoth := SAt.set_other (cs := y.cells) hz9 (Nat.ne_of_lt hlt)
          replace hz9 := hoth
          clear hoth
          replace hB := hBn
          clear hBn
          replace hz10 := hys
          refine done_ (done_of HT_.out (by kernel_rfl)) ?_
          clear HT_ HW_
          have Hz9 := Lib.hid hz9
          have Hz10 := Lib.hid hz10
          have HBB := Lib.hid hB
          clear hz9 hz10 hB
          go_wp2_with fail
          go_meet
          case rel => exact ⟨_, _, rfl, rfl, Hz9, Hz10, HBB⟩
        · skip
          have hz10 := SAt.new 54 (wA) Sup.zero
          have hlt := hz9.lt
          replace hz9 := SAt.below hz9 (below_alloc (Below.refl _ _) (.cells Sup.zero.cells 54))
          have hle_z10 := hB.size
          replace hB := below_alloc hB (.cells Sup.zero.cells 54)
          refine value_ (by rfl) rfl (ex_alloc (run_alloc54 _) rfl) ?_
          refine hK.out _ _ (hHeld.below (below_alloc (Below.refl _ _) (.cells Sup.zero.cells 54))) (fun hHeld => ?_)
          clear hK K
          refine norm_ (a' := ?_) ?_ ?_
          rotate_left
          · show Act.put _ (some 8) _ = _
            simp only [Act.put, List.setIfInBounds_toArray, List.set_cons_zero, List.set_cons_succ]
            rfl
          refine one_ (i := 3) (N := (some 22)) #[true, true, true, true, true, true, false, false] rfl rfl (one_of HT_.out (by kernel_rfl)) (by decide) (fun K hK => ?_)
          refine call_ 33 #[.agg s.cells] (by rfl) rfl (by go_simp) ?_
          refine (may_any s _ hs).mono ?_
          rw [Hye.out]
          rintro e wB ⟨rfl, hb⟩
          replace hB := below_then hB hb
          replace hz9 := SAt.below hz9 hb
          replace hz10 := SAt.below hz10 hb
          refine ⟨_, rfl, ?_⟩
          refine hK.out _ _ (hHeld.below hb) (fun hHeld => ?_)
          clear hK K
          refine norm_ (a' := ?_) ?_ ?_
          rotate_left
          · show Act.put _ (some 22) _ = _
            simp only [Act.put, List.setIfInBounds_toArray, List.set_cons_zero, List.set_cons_succ]
            rfl
          clear hb
          refine last_ (i := 6) (N := none) #[true, true, true, true, true, true, true, false] rfl rfl (one_of HT_.out (by kernel_rfl)) (by decide) (fun K hK => ?_)
          have hxs := hz9.set (s := x)
          have hxr := hle_z9
          have hBn := Below.setRow' hB (show w.heap.size ≤ (w3).heap.size by omega) x.cells
          refine skip_ (by rfl) rfl (ex_store (hz9.store54 (s := x)) rfl rfl rfl) ?_
          refine hK.out _ _ ?_
          clear hK K
          have hoth := SAt.set_other (cs := x.cells) hz10 (Nat.ne_of_gt hlt)
          replace hz10 := hoth
          clear hoth
          replace hB := hBn
          clear hBn
          replace hz9 := hxs
          refine last_ (i := 7) (N := none) #[true, true, true, true, true, true, true, true] rfl rfl (one_of HT_.out (by kernel_rfl)) (by decide) (fun K hK => ?_)
          have hys := hz10.set (s := y)
          have hyr := hle_z10
          have hBn := Below.setRow' hB (show w.heap.size ≤ (wA).heap.size by omega) y.cells
          refine skip_ (by rfl) rfl (ex_store (hz10.store54 (s := y)) rfl rfl rfl) ?_
          refine hK.out _ _ ?_
          clear hK K
          have hoth := SAt.set_other (cs := y.cells) hz9 (Nat.ne_of_lt hlt)
          replace hz9 := hoth
          clear hoth
          replace hB := hBn
          clear hBn
          replace hz10 := hys
          refine done_ (done_of HT_.out (by kernel_rfl)) ?_
          clear HT_ HW_
          have Hz9 := Lib.hid hz9
          have Hz10 := Lib.hid hz10
          have HBB := Lib.hid hB
          clear hz9 hz10 hB
          go_wp2_with fail
          go_meet
          case rel => exact ⟨_, _, rfl, rfl, Hz9, Hz10, HBB⟩
      · skip
        have hz10 := SAt.new 54 ((w3).alloc (.cells Sup.zero.cells 54)) Sup.zero
        have hlt := hz9.lt
        replace hz9 := SAt.below hz9 (below_alloc (Below.refl _ _) (.cells Sup.zero.cells 54))
        have hle_z10 := hB.size
        replace hB := below_alloc hB (.cells Sup.zero.cells 54)
        refine value_ (by rfl) rfl (ex_alloc (run_alloc54 _) rfl) ?_
        refine hK.out _ _ (hHeld.below (below_alloc (Below.refl _ _) (.cells Sup.zero.cells 54))) (fun hHeld => ?_)
        clear hK K
        refine norm_ (a' := ?_) ?_ ?_
        rotate_left
        · show Act.put _ (some 8) _ = _
          simp only [Act.put, List.setIfInBounds_toArray, List.set_cons_zero, List.set_cons_succ]
          rfl
        refine one_ (i := 1) (N := (some 20)) #[true, true, true, false, true, true, false, false] rfl rfl (one_of HT_.out (by kernel_rfl)) (by decide) (fun K hK => ?_)
        refine call_ 33 #[.agg r.cells] (by rfl) rfl (by go_simp) ?_
        refine (may_any r _ hr).mono ?_
        rw [Hxe.out]
        rintro e wA ⟨rfl, hb⟩
        replace hB := below_then hB hb
        replace hz9 := SAt.below hz9 hb
        replace hz10 := SAt.below hz10 hb
        refine ⟨_, rfl, ?_⟩
        refine hK.out _ _ (hHeld.below hb) (fun hHeld => ?_)
        clear hK K
        refine norm_ (a' := ?_) ?_ ?_
        rotate_left
        · show Act.put _ (some 20) _ = _
          simp only [Act.put, List.setIfInBounds_toArray, List.set_cons_zero, List.set_cons_succ]
          rfl
        clear hb
        refine one_ (i := 3) (N := (some 22)) #[true, true, true, true, true, true, false, false] rfl rfl (one_of HT_.out (by kernel_rfl)) (by decide) (fun K hK => ?_)
        refine call_ 33 #[.agg s.cells] (by rfl) rfl (by go_simp) ?_
        refine (may_any s _ hs).mono ?_
        rw [Hye.out]
        rintro e wB ⟨rfl, hb⟩
        replace hB := below_then hB hb
        replace hz9 := SAt.below hz9 hb
        replace hz10 := SAt.below hz10 hb
        refine ⟨_, rfl, ?_⟩
        refine hK.out _ _ (hHeld.below hb) (fun hHeld => ?_)
        clear hK K
        refine norm_ (a' := ?_) ?_ ?_
        rotate_left
        · show Act.put _ (some 22) _ = _
          simp only [Act.put, List.setIfInBounds_toArray, List.set_cons_zero, List.set_cons_succ]
          rfl
        clear hb
        refine last_ (i := 6) (N := none) #[true, true, true, true, true, true, true, false] rfl rfl (one_of HT_.out (by kernel_rfl)) (by decide) (fun K hK => ?_)
        have hxs := hz9.set (s := x)
        have hxr := hle_z9
        have hBn := Below.setRow' hB (show w.heap.size ≤ (w3).heap.size by omega) x.cells
        refine skip_ (by rfl) rfl (ex_store (hz9.store54 (s := x)) rfl rfl rfl) ?_
        refine hK.out _ _ ?_
        clear hK K
        have hoth := SAt.set_other (cs := x.cells) hz10 (Nat.ne_of_gt hlt)
        replace hz10 := hoth
        clear hoth
        replace hB := hBn
        clear hBn
        replace hz9 := hxs
        refine last_ (i := 7) (N := none) #[true, true, true, true, true, true, true, true] rfl rfl (one_of HT_.out (by kernel_rfl)) (by decide) (fun K hK => ?_)
        have hys := hz10.set (s := y)
        have hyr := hle_z10
        have hBn := Below.setRow' hB (show w.heap.size ≤ ((w3).alloc (.cells Sup.zero.cells 54)).heap.size by omega) y.cells
        refine skip_ (by rfl) rfl (ex_store (hz10.store54 (s := y)) rfl rfl rfl) ?_
        refine hK.out _ _ ?_
        clear hK K
        have hoth := SAt.set_other (cs := y.cells) hz9 (Nat.ne_of_lt hlt)
        replace hz9 := hoth
        clear hoth
        replace hB := hBn
        clear hBn
        replace hz10 := hys
        refine done_ (done_of HT_.out (by kernel_rfl)) ?_
        clear HT_ HW_
        have Hz9 := Lib.hid hz9
        have Hz10 := Lib.hid hz10
        have HBB := Lib.hid hB
        clear hz9 hz10 hB
        go_wp2_with fail
        go_meet
        case rel => exact ⟨_, _, rfl, rfl, Hz9, Hz10, HBB⟩
    · skip
      have hz10 := SAt.new 54 (w3) Sup.zero
      have hle_z10 := hB.size
      replace hB := below_alloc hB (.cells Sup.zero.cells 54)
      refine value_ (by rfl) rfl (ex_alloc (run_alloc54 _) rfl) ?_
      refine hK.out _ _ (hHeld.below (below_alloc (Below.refl _ _) (.cells Sup.zero.cells 54))) (fun hHeld => ?_)
      clear hK K
      refine norm_ (a' := ?_) ?_ ?_
      rotate_left
      · show Act.put _ (some 8) _ = _
        simp only [Act.put, List.setIfInBounds_toArray, List.set_cons_zero, List.set_cons_succ]
        rfl
      refine two_ (i := 1) (j := 4) (Ni := (some 20)) (Nj := (some 7)) #[true, true, true, false, false, true, false, false] #[true, false, true, false, true, true, false, false] rfl rfl rfl rfl (two_of HT_.out (by kernel_rfl)) (by decide) (by decide) (fun K hK => ?_) (fun K hK => ?_)
      · skip
        refine call_ 33 #[.agg r.cells] (by rfl) rfl (by go_simp) ?_
        refine (may_any r _ hr).mono ?_
        rw [Hxe.out]
        rintro e wA ⟨rfl, hb⟩
        replace hB := below_then hB hb
        replace hz10 := SAt.below hz10 hb
        refine ⟨_, rfl, ?_⟩
        refine hK.out _ _ (hHeld.below hb) (fun hHeld => ?_)
        clear hK K
        refine norm_ (a' := ?_) ?_ ?_
        rotate_left
        · show Act.put _ (some 20) _ = _
          simp only [Act.put, List.setIfInBounds_toArray, List.set_cons_zero, List.set_cons_succ]
          rfl
        clear hb
        refine two_ (i := 3) (j := 4) (Ni := (some 22)) (Nj := (some 7)) #[true, true, true, true, false, true, false, false] #[true, true, true, false, true, true, false, false] rfl rfl rfl rfl (two_of HT_.out (by kernel_rfl)) (by decide) (by decide) (fun K hK => ?_) (fun K hK => ?_)
        · skip
          refine call_ 33 #[.agg s.cells] (by rfl) rfl (by go_simp) ?_
          refine (may_any s _ hs).mono ?_
          rw [Hye.out]
          rintro e wB ⟨rfl, hb⟩
          replace hB := below_then hB hb
          replace hz10 := SAt.below hz10 hb
          refine ⟨_, rfl, ?_⟩
          refine hK.out _ _ (hHeld.below hb) (fun hHeld => ?_)
          clear hK K
          refine norm_ (a' := ?_) ?_ ?_
          rotate_left
          · show Act.put _ (some 22) _ = _
            simp only [Act.put, List.setIfInBounds_toArray, List.set_cons_zero, List.set_cons_succ]
            rfl
          clear hb
          refine one_ (i := 4) (N := (some 7)) #[true, true, true, true, true, true, false, false] rfl rfl (one_of HT_.out (by kernel_rfl)) (by decide) (fun K hK => ?_)
          have hz9 := SAt.new 54 (wB) Sup.zero
          have hlt := hz10.lt
          replace hz10 := SAt.below hz10 (below_alloc (Below.refl _ _) (.cells Sup.zero.cells 54))
          have hle_z9 := hB.size
          replace hB := below_alloc hB (.cells Sup.zero.cells 54)
          refine value_ (by rfl) rfl (ex_alloc (run_alloc54 _) rfl) ?_
          refine hK.out _ _ (hHeld.below (below_alloc (Below.refl _ _) (.cells Sup.zero.cells 54))) (fun hHeld => ?_)
          clear hK K
          refine norm_ (a' := ?_) ?_ ?_
          rotate_left
          · show Act.put _ (some 7) _ = _
            simp only [Act.put, List.setIfInBounds_toArray, List.set_cons_zero, List.set_cons_succ]
            rfl
          refine last_ (i := 6) (N := none) #[true, true, true, true, true, true, true, false] rfl rfl (one_of HT_.out (by kernel_rfl)) (by decide) (fun K hK => ?_)
          have hxs := hz9.set (s := x)
          have hxr := hle_z9
          have hBn := Below.setRow' hB (show w.heap.size ≤ (wB).heap.size by omega) x.cells
          refine skip_ (by rfl) rfl (ex_store (hz9.store54 (s := x)) rfl rfl rfl) ?_
          refine hK.out _ _ ?_
          clear hK K
          have hoth := SAt.set_other (cs := x.cells) hz10 (Nat.ne_of_lt hlt)
          replace hz10 := hoth
          clear hoth
          replace hB := hBn
          clear hBn
          replace hz9 := hxs
          refine last_ (i := 7) (N := none) #[true, true, true, true, true, true, true, true] rfl rfl (one_of HT_.out (by kernel_rfl)) (by decide) (fun K hK => ?_)
          have hys := hz10.set (s := y)
          have hyr := hle_z10
          have hBn := Below.setRow' hB (show w.heap.size ≤ (w3).heap.size by omega) y.cells
          refine skip_ (by rfl) rfl (ex_store (hz10.store54 (s := y)) rfl rfl rfl) ?_
          refine hK.out _ _ ?_
          clear hK K
          have hoth := SAt.set_other (cs := y.cells) hz9 (Nat.ne_of_gt hlt)
          replace hz9 := hoth
          clear hoth
          replace hB := hBn
          clear hBn
          replace hz10 := hys
          refine done_ (done_of HT_.out (by kernel_rfl)) ?_
          clear HT_ HW_
          have Hz9 := Lib.hid hz9
          have Hz10 := Lib.hid hz10
          have HBB := Lib.hid hB
          clear hz9 hz10 hB
          go_wp2_with fail
          go_meet
          case rel => exact ⟨_, _, rfl, rfl, Hz9, Hz10, HBB⟩
        · skip
          have hz9 := SAt.new 54 (wA) Sup.zero
          have hlt := hz10.lt
          replace hz10 := SAt.below hz10 (below_alloc (Below.refl _ _) (.cells Sup.zero.cells 54))
          have hle_z9 := hB.size
          replace hB := below_alloc hB (.cells Sup.zero.cells 54)
          refine value_ (by rfl) rfl (ex_alloc (run_alloc54 _) rfl) ?_
          refine hK.out _ _ (hHeld.below (below_alloc (Below.refl _ _) (.cells Sup.zero.cells 54))) (fun hHeld => ?_)
          clear hK K
          refine norm_ (a' := ?_) ?_ ?_
          rotate_left
          · show Act.put _ (some 7) _ = _
            simp only [Act.put, List.setIfInBounds_toArray, List.set_cons_zero, List.set_cons_succ]
            rfl
          refine one_ (i := 3) (N := (some 22)) #[true, true, true, true, true, true, false, false] rfl rfl (one_of HT_.out (by kernel_rfl)) (by decide) (fun K hK => ?_)
          refine call_ 33 #[.agg s.cells] (by rfl) rfl (by go_simp) ?_
          refine (may_any s _ hs).mono ?_
          rw [Hye.out]
          rintro e wB ⟨rfl, hb⟩
          replace hB := below_then hB hb
          replace hz9 := SAt.below hz9 hb
          replace hz10 := SAt.below hz10 hb
          refine ⟨_, rfl, ?_⟩
          refine hK.out _ _ (hHeld.below hb) (fun hHeld => ?_)
          clear hK K
          refine norm_ (a' := ?_) ?_ ?_
          rotate_left
          · show Act.put _ (some 22) _ = _
            simp only [Act.put, List.setIfInBounds_toArray, List.set_cons_zero, List.set_cons_succ]
            rfl
          clear hb
          refine last_ (i := 6) (N := none) #[true, true, true, true, true, true, true, false] rfl rfl (one_of HT_.out (by kernel_rfl)) (by decide) (fun K hK => ?_)
          have hxs := hz9.set (s := x)
          have hxr := hle_z9
          have hBn := Below.setRow' hB (show w.heap.size ≤ (wA).heap.size by omega) x.cells
          refine skip_ (by rfl) rfl (ex_store (hz9.store54 (s := x)) rfl rfl rfl) ?_
          refine hK.out _ _ ?_
          clear hK K
          have hoth := SAt.set_other (cs := x.cells) hz10 (Nat.ne_of_lt hlt)
          replace hz10 := hoth
          clear hoth
          replace hB := hBn
          clear hBn
          replace hz9 := hxs
          refine last_ (i := 7) (N := none) #[true, true, true, true, true, true, true, true] rfl rfl (one_of HT_.out (by kernel_rfl)) (by decide) (fun K hK => ?_)
          have hys := hz10.set (s := y)
          have hyr := hle_z10
          have hBn := Below.setRow' hB (show w.heap.size ≤ (w3).heap.size by omega) y.cells
          refine skip_ (by rfl) rfl (ex_store (hz10.store54 (s := y)) rfl rfl rfl) ?_
          refine hK.out _ _ ?_
          clear hK K
          have hoth := SAt.set_other (cs := y.cells) hz9 (Nat.ne_of_gt hlt)
          replace hz9 := hoth
          clear hoth
          replace hB := hBn
          clear hBn
          replace hz10 := hys
          refine done_ (done_of HT_.out (by kernel_rfl)) ?_
          clear HT_ HW_
          have Hz9 := Lib.hid hz9
          have Hz10 := Lib.hid hz10
          have HBB := Lib.hid hB
          clear hz9 hz10 hB
          go_wp2_with fail
          go_meet
          case rel => exact ⟨_, _, rfl, rfl, Hz9, Hz10, HBB⟩
      · skip
        have hz9 := SAt.new 54 ((w3).alloc (.cells Sup.zero.cells 54)) Sup.zero
        have hlt := hz10.lt
        replace hz10 := SAt.below hz10 (below_alloc (Below.refl _ _) (.cells Sup.zero.cells 54))
        have hle_z9 := hB.size
        replace hB := below_alloc hB (.cells Sup.zero.cells 54)
        refine value_ (by rfl) rfl (ex_alloc (run_alloc54 _) rfl) ?_
        refine hK.out _ _ (hHeld.below (below_alloc (Below.refl _ _) (.cells Sup.zero.cells 54))) (fun hHeld => ?_)
        clear hK K
        refine norm_ (a' := ?_) ?_ ?_
        rotate_left
        · show Act.put _ (some 7) _ = _
          simp only [Act.put, List.setIfInBounds_toArray, List.set_cons_zero, List.set_cons_succ]
          rfl
        refine one_ (i := 1) (N := (some 20)) #[true, true, true, false, true, true, false, false] rfl rfl (one_of HT_.out (by kernel_rfl)) (by decide) (fun K hK => ?_)
        refine call_ 33 #[.agg r.cells] (by rfl) rfl (by go_simp) ?_
        refine (may_any r _ hr).mono ?_
        rw [Hxe.out]
        rintro e wA ⟨rfl, hb⟩
        replace hB := below_then hB hb
        replace hz9 := SAt.below hz9 hb
        replace hz10 := SAt.below hz10 hb
        refine ⟨_, rfl, ?_⟩
        refine hK.out _ _ (hHeld.below hb) (fun hHeld => ?_)
        clear hK K
        refine norm_ (a' := ?_) ?_ ?_
        rotate_left
        · show Act.put _ (some 20) _ = _
          simp only [Act.put, List.setIfInBounds_toArray, List.set_cons_zero, List.set_cons_succ]
          rfl
        clear hb
        refine one_ (i := 3) (N := (some 22)) #[true, true, true, true, true, true, false, false] rfl rfl (one_of HT_.out (by kernel_rfl)) (by decide) (fun K hK => ?_)
        refine call_ 33 #[.agg s.cells] (by rfl) rfl (by go_simp) ?_
        refine (may_any s _ hs).mono ?_
        rw [Hye.out]
        rintro e wB ⟨rfl, hb⟩
        replace hB := below_then hB hb
        replace hz9 := SAt.below hz9 hb
        replace hz10 := SAt.below hz10 hb
        refine ⟨_, rfl, ?_⟩
        refine hK.out _ _ (hHeld.below hb) (fun hHeld => ?_)
        clear hK K
        refine norm_ (a' := ?_) ?_ ?_
        rotate_left
        · show Act.put _ (some 22) _ = _
          simp only [Act.put, List.setIfInBounds_toArray, List.set_cons_zero, List.set_cons_succ]
          rfl
        clear hb
        refine last_ (i := 6) (N := none) #[true, true, true, true, true, true, true, false] rfl rfl (one_of HT_.out (by kernel_rfl)) (by decide) (fun K hK => ?_)
        have hxs := hz9.set (s := x)
        have hxr := hle_z9
        have hBn := Below.setRow' hB (show w.heap.size ≤ ((w3).alloc (.cells Sup.zero.cells 54)).heap.size by omega) x.cells
        refine skip_ (by rfl) rfl (ex_store (hz9.store54 (s := x)) rfl rfl rfl) ?_
        refine hK.out _ _ ?_
        clear hK K
        have hoth := SAt.set_other (cs := x.cells) hz10 (Nat.ne_of_lt hlt)
        replace hz10 := hoth
        clear hoth
        replace hB := hBn
        clear hBn
        replace hz9 := hxs
        refine last_ (i := 7) (N := none) #[true, true, true, true, true, true, true, true] rfl rfl (one_of HT_.out (by kernel_rfl)) (by decide) (fun K hK => ?_)
        have hys := hz10.set (s := y)
        have hyr := hle_z10
        have hBn := Below.setRow' hB (show w.heap.size ≤ (w3).heap.size by omega) y.cells
        refine skip_ (by rfl) rfl (ex_store (hz10.store54 (s := y)) rfl rfl rfl) ?_
        refine hK.out _ _ ?_
        clear hK K
        have hoth := SAt.set_other (cs := y.cells) hz9 (Nat.ne_of_gt hlt)
        replace hz9 := hoth
        clear hoth
        replace hB := hBn
        clear hBn
        replace hz10 := hys
        refine done_ (done_of HT_.out (by kernel_rfl)) ?_
        clear HT_ HW_
        have Hz9 := Lib.hid hz9
        have Hz10 := Lib.hid hz10
        have HBB := Lib.hid hB
        clear hz9 hz10 hB
        go_wp2_with fail
        go_meet
        case rel => exact ⟨_, _, rfl, rfl, Hz9, Hz10, HBB⟩
  case rest =>
    obtain ⟨g7, g8, rfl, rfl, HX, HY, Hb⟩ := hcut
    clear hS0 hB
    have Ht2 := Lib.hid (Ht.out.below Hb.out)
    have Hw2 := Lib.hid (Hw.out.below Hb.out)
    have Hex : Hid (encS x = enc7 x) := Lib.hid (if_pos hxk)
    have Hey : Hid (encS y = enc7 y) := Lib.hid (if_pos hyk)
    go_wp2_with (first
      | (refine go_value (o := ⟨some 24, _, _, _, _, _⟩) (by rfl) (ex_load HX.out.load54 rfl rfl) ?_)
      | fail)
    refine (sencode_any x _ hxo Ht2.out Hw2.out).mono ?_
    rw [supE_ok hxk, Hex.out]
    rintro e w4 ⟨v1, rfl, ho1, hb1⟩
    obtain ⟨ga, ca, rfl, -, -, -, -⟩ := ho1.form (by rw [enc7_length]; omega)
    rw [enc7_length] at ho1 ⊢
    have Ho4 := Lib.hid ho1.reads
    have HX4 := Lib.hid (HX.out.below hb1)
    have HY4 := Lib.hid (HY.out.below hb1)
    have Hb4 := Lib.hid (below_then Hb.out hb1)
    have Ht4 := Lib.hid (Ht.out.below Hb4.out)
    have Hw4 := Lib.hid (Hw.out.below Hb4.out)
    clear ho1 hb1 HX HY Hb Ht2 Hw2
    go_wp2_with (first
      | (refine go_value (o := ⟨some 29, _, _, _, _, _⟩) (by rfl) (ex_load HY4.out.load54 rfl rfl) ?_)
      | fail)
    refine (sencode_any y _ hyo Ht4.out Hw4.out).mono ?_
    rw [supE_ok hyk, Hey.out]
    rintro e w5 ⟨v2, rfl, ho2, hb2⟩
    obtain ⟨gb, cb, rfl, -, -, -, -⟩ := ho2.form (by rw [enc7_length]; omega)
    rw [enc7_length] at ho2 ⊢
    have HP0 := Lib.hid (Ho4.out.below hb2)
    have HQ0 := Lib.hid ho2.reads
    have HX0 := Lib.hid (HX4.out.below hb2)
    have HY0 := Lib.hid (HY4.out.below hb2)
    have Hb0 := Lib.hid (below_then Hb4.out hb2)
    clear ho2 hb2 HX4 HY4 Hb4 Ht4 Hw4 Ho4
    go_upto_region 6 with fail
    have hst : ((strOfNums (enc7 x)).toList == (strOfNums (enc7 y)).toList) = supEq x y := by
      rw [str_beq (enc7_isB hxk) (enc7_isB hyk), Bool.eq_iff_iff, beq_iff_eq, supEq_iff]
      exact enc7_inj hxk hyk hxo.t.1 hyo.t.1
    have Hdx := Lib.hid (sdec_enc x hxk hxo.t.1)
    have Hl1 : Hid ((enc7 x).length = 64) := Lib.hid (enc7_length x)
    obtain ⟨L1, hL1⟩ : ∃ L, enc7 x = L := ⟨_, rfl⟩
    obtain ⟨L2, hL2⟩ : ∃ L, enc7 y = L := ⟨_, rfl⟩
    rw [hL1] at HP0 hst Hdx Hl1
    rw [hL2] at HQ0 hst
    have hS6 : S196 g7 g8 x y (.slice (some ⟨ga, 0, none⟩) 64 ca) (.slice (some ⟨gb, 0, none⟩) 64 cb) L1 L2 w5.drew := (S196.mk HX0.out HY0.out HP0.out HQ0.out).below (below_drew (Below.refl _ _))
    have HP := Lib.hid (HP0.out.below (below_drew (Below.refl _ _)))
    have HQ := Lib.hid (HQ0.out.below (below_drew (Below.refl _ _)))
    have HX := Lib.hid (HX0.out.below (below_drew (Below.refl _ _)))
    have HY := Lib.hid (HY0.out.below (below_drew (Below.refl _ _)))
    have HB5 := Lib.hid (below_drew Hb0.out)
    clear HP0 HQ0 HX0 HY0 Hb0 Hex Hey hL1 hL2
    refine start_ (n := 24) (S := S196 g7 g8 x y (.slice (some ⟨ga, 0, none⟩) 64 ca) (.slice (some ⟨gb, 0, none⟩) 64 cb) L1 L2) (ds := []) #[false, false, false, false, false, false, false, false, false, false, false, false, false, false, false, false, false, false, false, false, false, false, false, false] (by kernel_rfl) rfl rfl (hS6) (fun hHeld => ?_); refine with_tabW tab19_6 bits19_6 (fun HT_ HW_ => ?_)
    clear hS6
    generalize w5.drew = w5d at HP HQ HX HY HB5 hHeld ⊢
    refine pure_ (i := 0) (N := (some 33)) (v := ?_) (a' := ?_) #[true, false, false, false, false, false, false, false, false, false, false, false, false, false, false, false, false, false, false, false, false, false, false, false] rfl rfl (any_of HT_.out (by kernel_rfl)) (fun _ _ _ h => h) (Or.inl ⟨by rfl, ?_⟩) ?_ ?_
    rotate_left
    · intro w'
      go_simp
      with_reducible rfl
    rotate_left
    · simp only [Act.put, List.setIfInBounds_toArray, List.set_cons_zero, List.set_cons_succ]
      rfl
    refine one_ (i := 1) (N := (some 34)) #[true, true, false, false, false, false, false, false, false, false, false, false, false, false, false, false, false, false, false, false, false, false, false, false] rfl rfl (one_of HT_.out (by kernel_rfl)) (by decide) (fun K hK => ?_)
    refine call_ 34 #[.int .i64 0] (by rfl) rfl (by go_simp) ?_
    refine (snum_any 0 _).mono ?_
    rintro e w' ⟨rfl, rfl⟩
    refine ⟨_, rfl, ?_⟩
    refine hK.out _ _ (hHeld) (fun hHeld => ?_)
    clear hK K
    refine norm_ (a' := ?_) ?_ ?_
    rotate_left
    · show Act.put _ (some 34) _ = _
      simp only [Act.put, List.setIfInBounds_toArray, List.set_cons_zero, List.set_cons_succ]
      rfl
    refine pure_ (i := 2) (N := (some 35)) (v := ?_) (a' := ?_) #[true, true, true, false, false, false, false, false, false, false, false, false, false, false, false, false, false, false, false, false, false, false, false, false] rfl rfl (any_of HT_.out (by kernel_rfl)) (fun _ _ _ h => h) (Or.inl ⟨by rfl, ?_⟩) ?_ ?_
    rotate_left
    · intro w'
      go_simp
      with_reducible rfl
    rotate_left
    · simp only [Act.put, List.setIfInBounds_toArray, List.set_cons_zero, List.set_cons_succ]
      rfl
    refine pure_ (i := 3) (N := (some 36)) (v := ?_) (a' := ?_) #[true, true, true, true, false, false, false, false, false, false, false, false, false, false, false, false, false, false, false, false, false, false, false, false] rfl rfl (any_of HT_.out (by kernel_rfl)) (fun _ _ _ h => h) (Or.inl ⟨by rfl, ?_⟩) ?_ ?_
    rotate_left
    · intro w'
      go_simp
      with_reducible rfl
    rotate_left
    · simp only [Act.put, List.setIfInBounds_toArray, List.set_cons_zero, List.set_cons_succ]
      rfl
    refine pure_ (i := 4) (N := (some 37)) (v := ?_) (a' := ?_) #[true, true, true, true, true, false, false, false, false, false, false, false, false, false, false, false, false, false, false, false, false, false, false, false] rfl rfl (any_of HT_.out (by kernel_rfl)) (fun _ _ _ h => h) (Or.inl ⟨by rfl, ?_⟩) ?_ ?_
    rotate_left
    · intro w'
      go_simp
      with_reducible rfl
    rotate_left
    · simp only [Act.put, List.setIfInBounds_toArray, List.set_cons_zero, List.set_cons_succ]
      rfl
    refine one_ (i := 5) (N := (some 38)) #[true, true, true, true, true, true, false, false, false, false, false, false, false, false, false, false, false, false, false, false, false, false, false, false] rfl rfl (one_of HT_.out (by kernel_rfl)) (by decide) (fun K hK => ?_)
    refine call_ 34 #[.int .i64 0] (by rfl) rfl (by go_simp) ?_
    refine (snum_any 0 _).mono ?_
    rintro e w' ⟨rfl, rfl⟩
    refine ⟨_, rfl, ?_⟩
    refine hK.out _ _ (hHeld) (fun hHeld => ?_)
    clear hK K
    refine norm_ (a' := ?_) ?_ ?_
    rotate_left
    · show Act.put _ (some 38) _ = _
      simp only [Act.put, List.setIfInBounds_toArray, List.set_cons_zero, List.set_cons_succ]
      rfl
    refine pure_ (i := 6) (N := (some 39)) (v := ?_) (a' := ?_) #[true, true, true, true, true, true, true, false, false, false, false, false, false, false, false, false, false, false, false, false, false, false, false, false] rfl rfl (any_of HT_.out (by kernel_rfl)) (fun _ _ _ h => h) (Or.inl ⟨by rfl, ?_⟩) ?_ ?_
    rotate_left
    · intro w'
      go_simp
      with_reducible rfl
    rotate_left
    · simp only [Act.put, List.setIfInBounds_toArray, List.set_cons_zero, List.set_cons_succ]
      rfl
    refine pure_ (i := 7) (N := (some 40)) (v := ?_) (a' := ?_) #[true, true, true, true, true, true, true, true, false, false, false, false, false, false, false, false, false, false, false, false, false, false, false, false] rfl rfl (any_of HT_.out (by kernel_rfl)) (fun _ _ _ h => h) (Or.inl ⟨by rfl, ?_⟩) ?_ ?_
    rotate_left
    · intro w'
      go_simp
      with_reducible rfl
    rotate_left
    · simp only [Act.put, List.setIfInBounds_toArray, List.set_cons_zero, List.set_cons_succ]
      rfl
    refine pure_ (i := 8) (N := (some 41)) (v := ?_) (a' := ?_) #[true, true, true, true, true, true, true, true, true, false, false, false, false, false, false, false, false, false, false, false, false, false, false, false] rfl rfl (any_of HT_.out (by kernel_rfl)) (fun _ _ _ h => h) (Or.inl ⟨by rfl, ?_⟩) ?_ ?_
    rotate_left
    · intro w'
      go_simp
      with_reducible rfl
    rotate_left
    · simp only [Act.put, List.setIfInBounds_toArray, List.set_cons_zero, List.set_cons_succ]
      rfl
    refine pure_ (i := 9) (N := (some 42)) (v := ?_) (a' := ?_) #[true, true, true, true, true, true, true, true, true, true, false, false, false, false, false, false, false, false, false, false, false, false, false, false] rfl rfl (any_of HT_.out (by kernel_rfl)) (fun _ _ _ h => h) (Or.inl ⟨by rfl, ?_⟩) ?_ ?_
    rotate_left
    · intro w'
      go_simp
      with_reducible rfl
    rotate_left
    · simp only [Act.put, List.setIfInBounds_toArray, List.set_cons_zero, List.set_cons_succ]
      rfl
    refine pure_ (i := 10) (N := (some 43)) (v := ?_) (a' := ?_) #[true, true, true, true, true, true, true, true, true, true, true, false, false, false, false, false, false, false, false, false, false, false, false, false] rfl rfl (any_of HT_.out (by kernel_rfl)) (fun _ _ _ h => h) (Or.inl ⟨by rfl, ?_⟩) ?_ ?_
    rotate_left
    · intro w'
      go_simp
      with_reducible rfl
    rotate_left
    · simp only [Act.put, List.setIfInBounds_toArray, List.set_cons_zero, List.set_cons_succ]
      rfl
    refine pure_ (i := 11) (N := (some 44)) (v := ?_) (a' := ?_) #[true, true, true, true, true, true, true, true, true, true, true, true, false, false, false, false, false, false, false, false, false, false, false, false] rfl rfl (any_of HT_.out (by kernel_rfl)) (fun _ _ _ h => h) (Or.inl ⟨by rfl, ?_⟩) ?_ ?_
    rotate_left
    · intro w'
      go_simp
      with_reducible rfl
    rotate_left
    · simp only [Act.put, List.setIfInBounds_toArray, List.set_cons_zero, List.set_cons_succ]
      rfl
    refine pure_ (i := 12) (N := (some 45)) (v := ?_) (a' := ?_) #[true, true, true, true, true, true, true, true, true, true, true, true, true, false, false, false, false, false, false, false, false, false, false, false] rfl rfl (any_of HT_.out (by kernel_rfl)) (fun _ _ _ h => h) (Or.inl ⟨by rfl, ?_⟩) ?_ ?_
    rotate_left
    · intro w'
      go_simp
      with_reducible rfl
    rotate_left
    · simp only [Act.put, List.setIfInBounds_toArray, List.set_cons_zero, List.set_cons_succ]
      rfl
    refine pure_ (i := 13) (N := (some 46)) (v := ?_) (a' := ?_) #[true, true, true, true, true, true, true, true, true, true, true, true, true, true, false, false, false, false, false, false, false, false, false, false] rfl rfl (any_of HT_.out (by kernel_rfl)) (fun _ _ _ h => h) (Or.inl ⟨by rfl, ?_⟩) ?_ ?_
    rotate_left
    · intro w'
      go_simp
      with_reducible rfl
    rotate_left
    · simp only [Act.put, List.setIfInBounds_toArray, List.set_cons_zero, List.set_cons_succ]
      rfl
    refine pure_ (i := 14) (N := (some 47)) (v := ?_) (a' := ?_) #[true, true, true, true, true, true, true, true, true, true, true, true, true, true, true, false, false, false, false, false, false, false, false, false] rfl rfl (any_of HT_.out (by kernel_rfl)) (fun _ _ _ h => h) (Or.inl ⟨by rfl, ?_⟩) ?_ ?_
    rotate_left
    · intro w'
      go_simp
      with_reducible rfl
    rotate_left
    · simp only [Act.put, List.setIfInBounds_toArray, List.set_cons_zero, List.set_cons_succ]
      rfl
    refine take_ (i := 15) (N := (some 48)) (v := ?_) (a' := ?_) #[true, true, true, true, true, true, true, true, true, true, true, true, true, true, true, true, false, false, false, false, false, false, false, false] rfl rfl (take_of HT_.out (by kernel_rfl)) (fun _ _ _ h => h) (Or.inl ⟨by rfl, ?_⟩) hHeld ?_ ?_
    rotate_left
    · intro w' hw'
      have k9 := conv_str hw'.m
      go_simp
      with_reducible rfl
    rotate_left
    · simp only [Act.put, List.setIfInBounds_toArray, List.set_cons_zero, List.set_cons_succ]
      rfl
    refine pure_ (i := 16) (N := (some 49)) (v := ?_) (a' := ?_) #[true, true, true, true, true, true, true, true, true, true, true, true, true, true, true, true, true, false, false, false, false, false, false, false] rfl rfl (any_of HT_.out (by kernel_rfl)) (fun _ _ _ h => h) (Or.inl ⟨by rfl, ?_⟩) ?_ ?_
    rotate_left
    · intro w'
      go_simp
      with_reducible rfl
    rotate_left
    · simp only [Act.put, List.setIfInBounds_toArray, List.set_cons_zero, List.set_cons_succ]
      rfl
    refine take_ (i := 17) (N := (some 50)) (v := ?_) (a' := ?_) #[true, true, true, true, true, true, true, true, true, true, true, true, true, true, true, true, true, true, false, false, false, false, false, false] rfl rfl (take_of HT_.out (by kernel_rfl)) (fun _ _ _ h => h) (Or.inl ⟨by rfl, ?_⟩) hHeld ?_ ?_
    rotate_left
    · intro w' hw'
      have k9 := conv_str hw'.n
      go_simp
      with_reducible rfl
    rotate_left
    · simp only [Act.put, List.setIfInBounds_toArray, List.set_cons_zero, List.set_cons_succ]
      rfl
    refine pure_ (i := 18) (N := (some 51)) (v := ?_) (a' := ?_) #[true, true, true, true, true, true, true, true, true, true, true, true, true, true, true, true, true, true, true, false, false, false, false, false] rfl rfl (any_of HT_.out (by kernel_rfl)) (fun _ _ _ h => h) (Or.inl ⟨by rfl, ?_⟩) ?_ ?_
    rotate_left
    · intro w'
      go_simp
      with_reducible rfl
    rotate_left
    · simp only [Act.put, List.setIfInBounds_toArray, List.set_cons_zero, List.set_cons_succ]
      rfl
    refine take_ (i := 19) (N := (some 52)) (v := .agg x.cells) #[true, true, true, true, true, true, true, true, true, true, true, true, true, true, true, true, true, true, true, true, false, false, false, false] rfl rfl (take_of HT_.out (by kernel_rfl)) (fun _ _ _ h => h) (Or.inl ⟨by rfl, fun w' hw' => ex_load hw'.x.load54 rfl rfl⟩) hHeld rfl ?_
    refine norm_ (a' := ?_) ?_ ?_
    rotate_left
    · show Act.put _ (some 52) _ = _
      simp only [Act.put, List.setIfInBounds_toArray, List.set_cons_zero, List.set_cons_succ]
      rfl
    refine take_ (i := 20) (N := (some 53)) (v := .agg y.cells) #[true, true, true, true, true, true, true, true, true, true, true, true, true, true, true, true, true, true, true, true, true, false, false, false] rfl rfl (take_of HT_.out (by kernel_rfl)) (fun _ _ _ h => h) (Or.inl ⟨by rfl, fun w' hw' => ex_load hw'.y.load54 rfl rfl⟩) hHeld rfl ?_
    refine norm_ (a' := ?_) ?_ ?_
    rotate_left
    · show Act.put _ (some 53) _ = _
      simp only [Act.put, List.setIfInBounds_toArray, List.set_cons_zero, List.set_cons_succ]
      rfl
    refine pure_ (i := 21) (N := (some 54)) (v := .bool (supEq x y)) #[true, true, true, true, true, true, true, true, true, true, true, true, true, true, true, true, true, true, true, true, true, true, false, false] rfl rfl (any_of HT_.out (by kernel_rfl)) (fun _ _ _ h => h) (Or.inl ⟨by rfl, fun w' => ex_bin (eql54 x y w') rfl rfl rfl (run_eqGuard_agg _ _ _ _ _ _ _ noGuard54)⟩) rfl ?_
    refine norm_ (a' := ?_) ?_ ?_
    rotate_left
    · show Act.put _ (some 54) _ = _
      simp only [Act.put, List.setIfInBounds_toArray, List.set_cons_zero, List.set_cons_succ]
      rfl
    refine pure_ (i := 22) (N := (some 55)) (v := ?_) (a' := ?_) #[true, true, true, true, true, true, true, true, true, true, true, true, true, true, true, true, true, true, true, true, true, true, true, false] rfl rfl (any_of HT_.out (by kernel_rfl)) (fun _ _ _ h => h) (Or.inl ⟨by rfl, ?_⟩) ?_ ?_
    rotate_left
    · intro w'
      go_simp
      with_reducible rfl
    rotate_left
    · simp only [Act.put, List.setIfInBounds_toArray, List.set_cons_zero, List.set_cons_succ]
      rfl
    refine pure_ (i := 23) (N := (some 56)) (v := ?_) (a' := ?_) #[true, true, true, true, true, true, true, true, true, true, true, true, true, true, true, true, true, true, true, true, true, true, true, true] rfl rfl (any_of HT_.out (by kernel_rfl)) (fun _ _ _ h => h) (Or.inl ⟨by rfl, ?_⟩) ?_ ?_
    rotate_left
    · intro w'
      go_simp
      with_reducible rfl
    rotate_left
    · simp only [Act.put, List.setIfInBounds_toArray, List.set_cons_zero, List.set_cons_succ]
      rfl
    refine done_ (done_of HT_.out (by kernel_rfl)) ?_
    clear HT_ HW_ hst hHeld
    have hl1 := Hl1.out
    go_wp2_with (first
      | (at_builtin; refine wpList_app rfl (.tmp 58) (.tmp 59) 25 rfl Tryd.underlying25 info5 w5d.heap.size (.slice (some ⟨w5d.heap.size, 0, none⟩) 0 0) _ [] L1 rfl rfl (own_empty w5d) (HP.out.below (below_alloc (Below.refl _ _) _)) (by simp <;> omega) (by simp) ?_; intro v6 w6 ho6 hg6 _; rw [List.nil_append] at ho6)
      | fail)
    have hb6 : Below w5d.heap.size w5d w6 := below_grown (below_alloc (Below.refl _ _) _) (own_empty w5d) (Nat.le_refl _) hg6
    have Hb6 := Lib.hid (below_then HB5.out hb6)
    refine (sdec_any _ L1 _ ho6.reads (Ht.out.below Hb6.out) (Hw.out.below Hb6.out)).mono ?_
    rw [Hdx.out.1, Hdx.out.2]
    rintro e w7 ⟨rfl, hb7⟩
    have hv7 := svar_made 54 w7 x
    have HZ7 := Lib.hid (SAt.new 54 w7 Sup.zero)
    have hq7 := below_then (below_then hb6 hb7) hv7.2
    have HX7 := Lib.hid (HX.out.below hq7)
    have HV7 := Lib.hid hv7.1
    have Hb7 := Lib.hid (below_then HB5.out hq7)
    have hge7 : w.heap.size ≤ w7.heap.size := (below_then Hb6.out hb7).size
    clear hv7 hb7 hq7 hb6 Hb6 ho6 hg6 HP HQ HX HY HB5
    go_upto_region 9 with (first
      | (refine go_value (o := ⟨_, .alloc 54, _, _, _, _⟩) (by rfl) (ex_alloc (run_alloc54 _) rfl) ?_)
      | (refine go_skip (o := ⟨none, .store 54 _ _, _, _, _, _⟩) (by rfl) (ex_store (HZ7.out.store54 (s := x)) rfl rfl rfl) ?_)
      | fail)
    generalize hg13 : w7.heap.size = g13 at HX7 HV7 Hb7 hge7 ⊢
    generalize (w7.alloc (.cells Sup.zero.cells 54)).setRow g13 x.cells = w8 at HX7 HV7 Hb7 ⊢
    clear hg13 HZ7
    have Hv8 := Lib.hid (Hv.out.below Hb7.out)
    go_wp2_with (first
      | (refine go_value (o := ⟨some 68, _, _, _, _, _⟩) (by rfl) (ex_load HV7.out.load54 rfl rfl) ?_)
      | (refine go_value (o := ⟨some 69, _, _, _, _, _⟩) (by rfl) (ex_load HX7.out.load54 rfl rfl) ?_)
      | (refine go_value (o := ⟨some 70, _, _, _, _, _⟩) (by rfl) (ex_bin (r := .bool false) (by have h9 := neq54 x x w8; rw [supEq_self] at h9; exact h9) rfl rfl rfl (run_eqGuard_agg _ _ _ _ _ _ _ noGuard54)) ?_)
      | (go_at_call 34; (with_reducible refine (snum_any _ _).mono ?_); rintro e w' ⟨rfl, rfl⟩)
      | (at_builtin; refine wpList_app rfl (.tmp 73) (.tmp 74) 25 rfl Tryd.underlying25 info5 w8.heap.size (.slice (some ⟨w8.heap.size, 0, none⟩) 0 0) _ [] b rfl rfl (own_empty w8) (Hv8.out.below (below_alloc (Below.refl _ _) _)) (by simp <;> omega) (by simp) ?_; intro v9 w9 ho9 hg9 _; rw [List.nil_append] at ho9)
      | fail)
    have hb9 : Below w8.heap.size w8 w9 := below_grown (below_alloc (Below.refl _ _) _) (own_empty w8) (Nat.le_refl _) hg9
    have Hb9 := Lib.hid (below_then Hb7.out hb9)
    refine (sdec_any _ b _ ho9.reads (Ht.out.below Hb9.out) (Hw.out.below Hb9.out)).mono ?_
    have HV9 := Lib.hid (HV7.out.below hb9)
    have cs2 : ∀ w', Below w.heap.size w w' → RBy w' (.slice A b.length c) b := fun w' hb => Hv.out.below hb
    have Hcs2 := Lib.hid cs2
    clear cs2 ho9 hg9 hb9 HX7 Hb7
    by_cases hd : sdecOk b
    · have hE : sdecE b = 0 := by rw [sdecE, if_pos hd.1, if_pos hd]
      have hV : sdecV b = sdecR b := if_pos hd
      have hZk := hd.2.1
      have hZe := hd.2.2
      have hZo := sdecR_ok b HbB.out
      rw [hE, hV]
      obtain ⟨Z, hZ⟩ : ∃ Z, sdecR b = Z := ⟨_, rfl⟩
      rw [hZ] at hZk hZe hZo ⊢
      clear hE hV hZ hd
      rintro e w10 ⟨rfl, hb10⟩
      have HV10 := Lib.hid (HV9.out.below hb10)
      have Hb10 := Lib.hid (below_then Hb9.out hb10)
      have HVz := Lib.hid (HV10.out.set (s := Z))
      have Hbz := Lib.hid (Below.setRow' Hb10.out hge7 Z.cells)
      clear hb10 HV9 Hb9
      go_upto_region 12 with (first
        | (refine go_skip (o := ⟨none, .store 54 _ _, _, _, _, _⟩) (by rfl) (ex_store (HV10.out.store54 (s := Z)) rfl rfl rfl) ?_)
        | fail)
      generalize w10.setRow g13 Z.cells = w11 at HVz Hbz ⊢
      clear HV10 Hb10
      go_wp2_with (first
        | (refine go_value (o := ⟨some 86, _, _, _, _, _⟩) (by rfl) (ex_load HVz.out.load54 rfl rfl) ?_)
        | (go_at_call 34; (with_reducible refine (snum_any _ _).mono ?_); rintro e w' ⟨rfl, rfl⟩)
        | fail)
      refine (sencode_any Z _ hZo (Ht.out.below Hbz.out) (Hw.out.below Hbz.out)).mono ?_
      rw [supE_ok hZk, show encS Z = enc7 Z from if_pos hZk, hZe]
      rintro e w12 ⟨vz, rfl, hoz, hbz⟩
      have hbf := below_then Hbz.out hbz
      have k1 := conv_str hoz.reads
      have k2 := conv_str (Hcs2.out _ hbf)
      obtain ⟨Az, cz, rfl, -⟩ := hoz.reads.form
      have Hbf := Lib.hid hbf
      clear hoz hbz hbf
      go_wp2_with (first
        | (go_at_call 34; (with_reducible refine (snum_any _ _).mono ?_); rintro e w' ⟨rfl, rfl⟩)
        | fail)
      go_ret
      exact ⟨by simp, Hbf.out⟩
    · have hne : sdecE b ≠ 0 := by
        unfold sdecE
        split <;> simp [hd]
      have hV : sdecV b = Sup.zero := if_neg hd
      rw [hV]
      generalize sdecE b = ex at hne ⊢
      have hne2 : (ex == 0) = false := by simpa using hne
      have hne3 : (ex != 0) = true := by simpa using hne
      clear hd hV
      rintro e w10 ⟨rfl, hb10⟩
      have HV10 := Lib.hid (HV9.out.below hb10)
      have Hb10 := Lib.hid (below_then Hb9.out hb10)
      have HVz := Lib.hid (HV10.out.set (s := Sup.zero))
      have Hbz := Lib.hid (Below.setRow' Hb10.out hge7 Sup.zero.cells)
      clear hb10 HV9 Hb9
      go_upto_region 12 with (first
        | (refine go_skip (o := ⟨none, .store 54 _ _, _, _, _, _⟩) (by rfl) (ex_store (HV10.out.store54 (s := Sup.zero)) rfl rfl rfl) ?_)
        | fail)
      generalize w10.setRow g13 Sup.zero.cells = w11 at HVz Hbz ⊢
      clear HV10 Hb10
      go_wp2_with (first
        | (refine go_value (o := ⟨some 82, _, _, _, _, _⟩) (by rfl) (ex_load HVz.out.load54 rfl rfl) ?_)
        | (refine go_value (o := ⟨some 83, _, _, _, _, _⟩) (by rfl) (ex_build b54_none rfl rfl) ?_)
        | (refine go_value (o := ⟨some 84, _, _, _, _, _⟩) (by rfl) (ex_bin (r := .bool true) (by have h9 := eql54 Sup.zero Sup.zero w11; rw [supEq_self] at h9; exact h9) rfl rfl rfl (run_eqGuard_agg _ _ _ _ _ _ _ noGuard54)) ?_)
        | (go_at_call 34; (with_reducible refine (snum_any _ _).mono ?_); rintro e w' ⟨rfl, rfl⟩)
        | fail)
      go_ret
      exact ⟨rfl, Hbz.out⟩
theorem superBack_walk (v : Value) (r : Sup) (u : Value) (s : Sup) (z : Value) (b : List Int) (w : World) (hv : v = .agg r.cells ∧ r.ok) (hu : u = .agg s.cells ∧ s.ok) (hz : RBy w z b) (hbl : b.length ≤ reachBytes) (ht : Tabs w) :
    Calls Tryd.prog 19 #[v, u, z] w fun e w' => e = .returned (.bool true) ∧ Below w.heap.size w w' := by
  obtain ⟨rfl, hr⟩ := hv
  obtain ⟨rfl, hs⟩ := hu
  exact superBack_sup r s z b w hr hs hz hbl ht
end Go.Proofs.YtblfmofhfbbmdaaDoor
