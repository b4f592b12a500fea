/- The worked calls that each law of package super begins with (wicketlaw07.awake). -/
import Derived.Test.YtblfmofhfbbmdaaDoorSupG
import Derived.Test.YtblfmofhfbbmdaaDoorWLast
set_option linter.unusedVariables false
set_option linter.unusedSimpArgs false
namespace Go.Proofs.YtblfmofhfbbmdaaDoor
open Go.RowKit Crc Go.Proofs.YtblfmofhfbbmdaaDoorW.PrintWords Go.Proofs.YtblfmofhfbbmdaaDoorW.PrintLast

theorem small_sup : SupOk Sup.small := by decide
theorem b48_none : Tryd.prog.built 48 [] = some Sup.zero.cfg := by kernel_rfl
theorem field_sup (s : Sup) (w : World) {o : Oper} {a : Act} {x : Operand} (ho : o.op = .field 51 x 0) (hx : a.eval x = .agg s.cells) : (execOp a.eval o).run Tryd.prog w = .ok (.value (.agg s.cfg)) w := by
  obtain ⟨b, l, m, h, c, t, f⟩ := s
  unfold execOp
  simp only [ho, hx]
  kernel_rfl
structure S31 (g : Nat) (v : Value) (w : World) : Prop where
  s : SAt 54 w g Sup.small
  v : RBy w v (enc7 Sup.small)
theorem S31.below {g : Nat} {v : Value} {w w' : World} (h : S31 g v w) (hb : Below w.heap.size w w') : S31 g v w' := ⟨h.s.below hb, h.v.below hb⟩
def T31_3 : Bool × List (List Nat × List Nat) := (true, [([], []), ([0], [0]), ([1], [1]), ([2, 1], [2]), ([3], [3]), ([4, 3, 3], [3, 4]), ([5, 3], [3, 5]), ([3, 6], [3, 6]), ([7, 5], [7]), ([8], [8]), ([9, 8], [8, 9]), ([8, 8], [8]), ([11, 11, 8], [8, 11]), ([12, 8], [8, 12]), ([10, 13, 8], [8, 10, 13]), ([8, 14], [8, 14]), ([15, 12], [15]), ([16], [16]), ([17, 16, 16], [16, 17]), ([18, 16], [16]), ([18, 19, 16], [16, 18, 19]), ([16, 20], [16, 20]), ([21, 19], [21]), ([22, 22], [22]), ([23, 22], [22, 23]), ([24, 23, 22], [22, 24]), ([25, 25, 22], [22, 25]), ([26, 22], [22, 26]), ([22, 27], [22, 27]), ([28, 26], [28]), ([29], [29]), ([30, 29, 29], [29, 30]), ([31, 31, 29], [29, 31]), ([32, 29], [29, 32]), ([29, 33], [29, 33]), ([34, 32, 0, 1, 2, 3, 4, 5, 6, 7, 8, 9, 10, 11, 12, 13, 14, 15, 16, 17, 18, 19, 20, 21, 22, 23, 24, 25, 26, 27, 28, 29, 30, 31, 32, 33, 34], [34])])
def B31_3 : List Nat := [0, 1, 3, 7, 15, 31, 63, 127, 255, 511, 1023, 511, 2559, 6655, 16383, 32767, 65535, 131071, 262143, 524287, 1048575, 2097151, 4194303, 8388607, 16777215, 33554431, 67108863, 134217727, 268435455, 536870911, 1073741823, 2147483647, 4294967295, 8589934591, 17179869183, 34359738367]
theorem tab31_3 : rtab .any (opsOf Tryd.f31 3) = T31_3 := by kernel_rfl
theorem bits31_3 : waitsOk T31_3.2 B31_3 = true := by kernel_rfl
set_option maxRecDepth 100000 in
set_option maxHeartbeats 8000000 in
theorem awake_any (w : World) (ht : Tab w) (hw : Wid w) : Calls Tryd.prog 31 #[] w fun e w' => e = .returned (.bool true) ∧ Below w.heap.size w w' := by
  have Ht := Lib.hid ht
  have Hw := Lib.hid hw
  clear ht hw
  go_enter Tryd.func31, Tryd.ntmps31
  go_wp2_with fail
  refine (small_any _).mono ?_
  rintro e w1 ⟨rfl, hb1⟩
  go_wp2_with fail
  refine (back_any Sup.small _).mono ?_
  rintro e w2 ⟨rfl, hb2⟩
  have hb2' := below_then hb1 hb2
  clear hb1 hb2
  go_wp2_with fail
  refine (sencode_any Sup.small _ Sup.small_ok (Ht.out.below hb2') (Hw.out.below hb2')).mono ?_
  rw [supE_ok small_sup, show encS Sup.small = enc7 Sup.small from if_pos small_sup]
  rintro e w3 ⟨v1, rfl, ho1, hb3⟩
  obtain ⟨g1, c1, rfl, -, -, -, -⟩ := ho1.form (by rw [enc7_length]; omega)
  rw [enc7_length] at ho1 ⊢
  have hb3' := below_then hb2' hb3
  have Ho1 := ho1.reads
  clear hb2' hb3 ho1
  go_wp2_with fail
  refine (small_any _).mono ?_
  rintro e w4 ⟨rfl, hb4⟩
  have hb4' := below_then hb3' hb4
  replace Ho1 := Ho1.below hb4
  clear hb3' hb4
  go_wp2_with fail
  refine (slaid_any Sup.small _ Sup.small_ok).mono ?_
  rw [lowS_ok small_sup]
  rintro e w5 ⟨v2, rfl, ho2, hb5⟩
  have hb5' := below_then hb4' hb5
  replace Ho1 := Ho1.below hb5
  clear hb4' hb5
  go_wp2_with fail
  refine (sdec_any _ (enc7 Sup.small) _ ho2.reads (Ht.out.below hb5') (Hw.out.below hb5')).mono ?_
  rw [(sdec_enc Sup.small small_sup (by decide)).1, (sdec_enc Sup.small small_sup (by decide)).2]
  rintro e w6 ⟨rfl, hb6⟩
  have HZ := Lib.hid (SAt.new 54 w6 Sup.zero)
  have hq := Below.setRow' (below_alloc (Below.refl w6.heap.size w6) (.cells Sup.zero.cells 54)) (Nat.le_refl _) Sup.small.cells
  have hb6' := below_then (below_then hb5' hb6) hq
  replace Ho1 := Ho1.below (below_then hb6 hq)
  have HA := HZ.out.set (s := Sup.small)
  clear hb5' hb6 hq ho2
  have HB0 := Lib.hid hb6'
  have HAh := Lib.hid HA
  have Ho := Lib.hid Ho1
  clear hb6' HA Ho1
  go_upto_region 3 with (first
    | (refine go_value (o := ⟨_, .alloc 54, _, _, _, _⟩) (by rfl) (ex_alloc (run_alloc54 _) rfl) ?_)
    | (refine go_skip (o := ⟨none, .store 54 _ _, _, _, _, _⟩) (by rfl) (ex_store (HZ.out.store54 (s := Sup.small)) rfl rfl rfl) ?_)
    | fail)
  generalize hg3 : w6.heap.size = g3 at HAh HB0 Ho ⊢
  generalize (w6.alloc (.cells Sup.zero.cells 54)).setRow g3 Sup.small.cells = w7 at HAh HB0 Ho ⊢
  clear hg3 HZ
  have hS0 : S31 g3 (.slice (some ⟨g1, 0, none⟩) 64 c1) w7.drew := (S31.mk HAh.out Ho.out).below (below_drew (Below.refl _ _))
  have HB := Lib.hid (below_drew HB0.out)
  clear HAh HB0 Ho
  refine start_ (n := 36) (S := S31 g3 (.slice (some ⟨g1, 0, none⟩) 64 c1)) (ds := []) #[false, false, false, false, false, false, false, false, false, false, false, false, false, false, false, false, false, false, false, false, false, false, false, false, false, false, false, false, false, false, false, false, false, false, false, false] (by kernel_rfl) rfl rfl (hS0) (fun hHeld => ?_); refine with_tabW tab31_3 bits31_3 (fun HT_ HW_ => ?_)
  clear hS0
  generalize w7.drew = w7d at HB hHeld ⊢
  refine pure_ (i := 0) (N := (some 17)) (v := ?_) (a' := ?_) #[true, false, false, false, false, false, false, false, false, false, false, false, false, false, false, false, false, false, false, false, false, false, false, false, false, false, false, false, false, false, false, false, false, false, false, false] rfl rfl (any_of HT_.out (by kernel_rfl)) (fun _ _ _ h => h) (Or.inl ⟨by rfl, ?_⟩) ?_ ?_
  rotate_left
  · intro w'
    go_simp
    with_reducible rfl
  rotate_left
  · simp only [Act.put, List.setIfInBounds_toArray, List.set_cons_zero, List.set_cons_succ]
    rfl
  refine one_ (i := 1) (N := (some 18)) #[true, true, false, false, false, false, false, false, false, false, false, false, false, false, false, false, false, false, false, false, false, false, false, false, false, false, false, false, false, false, false, false, false, false, false, false] rfl rfl (one_of HT_.out (by kernel_rfl)) (by decide) (fun K hK => ?_)
  refine call_ 34 #[.int .i64 0] (by rfl) rfl (by go_simp) ?_
  refine (snum_any 0 _).mono ?_
  rintro e w' ⟨rfl, rfl⟩
  refine ⟨_, rfl, ?_⟩
  refine hK.out _ _ (hHeld) (fun hHeld => ?_)
  clear hK K
  refine norm_ (a' := ?_) ?_ ?_
  rotate_left
  · show Act.put _ (some 18) _ = _
    simp only [Act.put, List.setIfInBounds_toArray, List.set_cons_zero, List.set_cons_succ]
    rfl
  refine pure_ (i := 2) (N := (some 19)) (v := ?_) (a' := ?_) #[true, true, true, false, false, false, false, false, false, false, false, false, false, false, false, false, false, false, false, false, false, false, false, false, false, false, false, false, false, false, false, false, false, false, false, false] rfl rfl (any_of HT_.out (by kernel_rfl)) (fun _ _ _ h => h) (Or.inl ⟨by rfl, ?_⟩) ?_ ?_
  rotate_left
  · intro w'
    go_simp
    with_reducible rfl
  rotate_left
  · simp only [Act.put, List.setIfInBounds_toArray, List.set_cons_zero, List.set_cons_succ]
    rfl
  refine pure_ (i := 3) (N := (some 20)) (v := ?_) (a' := ?_) #[true, true, true, true, false, false, false, false, false, false, false, false, false, false, false, false, false, false, false, false, false, false, false, false, false, false, false, false, false, false, false, false, false, false, false, false] rfl rfl (any_of HT_.out (by kernel_rfl)) (fun _ _ _ h => h) (Or.inl ⟨by rfl, ?_⟩) ?_ ?_
  rotate_left
  · intro w'
    go_simp
    with_reducible rfl
  rotate_left
  · simp only [Act.put, List.setIfInBounds_toArray, List.set_cons_zero, List.set_cons_succ]
    rfl
  refine pure_ (i := 4) (N := (some 21)) (v := ?_) (a' := ?_) #[true, true, true, true, true, false, false, false, false, false, false, false, false, false, false, false, false, false, false, false, false, false, false, false, false, false, false, false, false, false, false, false, false, false, false, false] rfl rfl (any_of HT_.out (by kernel_rfl)) (fun _ _ _ h => h) (Or.inl ⟨by rfl, ?_⟩) ?_ ?_
  rotate_left
  · intro w'
    go_simp
    with_reducible rfl
  rotate_left
  · simp only [Act.put, List.setIfInBounds_toArray, List.set_cons_zero, List.set_cons_succ]
    rfl
  refine one_ (i := 5) (N := (some 22)) #[true, true, true, true, true, true, false, false, false, false, false, false, false, false, false, false, false, false, false, false, false, false, false, false, false, false, false, false, false, false, false, false, false, false, false, false] rfl rfl (one_of HT_.out (by kernel_rfl)) (by decide) (fun K hK => ?_)
  refine call_ 34 #[.int .i64 0] (by rfl) rfl (by go_simp) ?_
  refine (snum_any 0 _).mono ?_
  rintro e w' ⟨rfl, rfl⟩
  refine ⟨_, rfl, ?_⟩
  refine hK.out _ _ (hHeld) (fun hHeld => ?_)
  clear hK K
  refine norm_ (a' := ?_) ?_ ?_
  rotate_left
  · show Act.put _ (some 22) _ = _
    simp only [Act.put, List.setIfInBounds_toArray, List.set_cons_zero, List.set_cons_succ]
    rfl
  refine pure_ (i := 6) (N := (some 23)) (v := ?_) (a' := ?_) #[true, true, true, true, true, true, true, false, false, false, false, false, false, false, false, false, false, false, false, false, false, false, false, false, false, false, false, false, false, false, false, false, false, false, false, false] rfl rfl (any_of HT_.out (by kernel_rfl)) (fun _ _ _ h => h) (Or.inl ⟨by rfl, ?_⟩) ?_ ?_
  rotate_left
  · intro w'
    go_simp
    with_reducible rfl
  rotate_left
  · simp only [Act.put, List.setIfInBounds_toArray, List.set_cons_zero, List.set_cons_succ]
    rfl
  refine pure_ (i := 7) (N := (some 24)) (v := ?_) (a' := ?_) #[true, true, true, true, true, true, true, true, false, false, false, false, false, false, false, false, false, false, false, false, false, false, false, false, false, false, false, false, false, false, false, false, false, false, false, false] rfl rfl (any_of HT_.out (by kernel_rfl)) (fun _ _ _ h => h) (Or.inl ⟨by rfl, ?_⟩) ?_ ?_
  rotate_left
  · intro w'
    go_simp
    with_reducible rfl
  rotate_left
  · simp only [Act.put, List.setIfInBounds_toArray, List.set_cons_zero, List.set_cons_succ]
    rfl
  refine pure_ (i := 8) (N := (some 25)) (v := ?_) (a' := ?_) #[true, true, true, true, true, true, true, true, true, false, false, false, false, false, false, false, false, false, false, false, false, false, false, false, false, false, false, false, false, false, false, false, false, false, false, false] rfl rfl (any_of HT_.out (by kernel_rfl)) (fun _ _ _ h => h) (Or.inl ⟨by rfl, ?_⟩) ?_ ?_
  rotate_left
  · intro w'
    go_simp
    with_reducible rfl
  rotate_left
  · simp only [Act.put, List.setIfInBounds_toArray, List.set_cons_zero, List.set_cons_succ]
    rfl
  refine pure_ (i := 9) (N := (some 26)) (v := ?_) (a' := ?_) #[true, true, true, true, true, true, true, true, true, true, false, false, false, false, false, false, false, false, false, false, false, false, false, false, false, false, false, false, false, false, false, false, false, false, false, false] rfl rfl (any_of HT_.out (by kernel_rfl)) (fun _ _ _ h => h) (Or.inl ⟨by rfl, ?_⟩) ?_ ?_
  rotate_left
  · intro w'
    go_simp
    with_reducible rfl
  rotate_left
  · simp only [Act.put, List.setIfInBounds_toArray, List.set_cons_zero, List.set_cons_succ]
    rfl
  refine take_ (i := 10) (N := (some 27)) (v := ?_) (a' := ?_) #[true, true, true, true, true, true, true, true, true, true, true, false, false, false, false, false, false, false, false, false, false, false, false, false, false, false, false, false, false, false, false, false, false, false, false, false] rfl rfl (take_of HT_.out (by kernel_rfl)) (fun _ _ _ h => h) (Or.inl ⟨by rfl, ?_⟩) hHeld ?_ ?_
  rotate_left
  · intro w' hw'
    have k9 := conv_str hw'.v
    go_simp
    with_reducible rfl
  rotate_left
  · simp only [Act.put, List.setIfInBounds_toArray, List.set_cons_zero, List.set_cons_succ]
    rfl
  refine one_ (i := 11) (N := (some 28)) #[true, true, true, true, true, true, true, true, true, true, true, true, false, false, false, false, false, false, false, false, false, false, false, false, false, false, false, false, false, false, false, false, false, false, false, false] rfl rfl (one_of HT_.out (by kernel_rfl)) (by decide) (fun K hK => ?_)
  refine call_ 60 #[] (by rfl) rfl (by go_simp) ?_
  refine (small_any _).mono ?_
  rintro e wk1 ⟨rfl, hb⟩
  have HB0 := HB.out
  have HB1 := Lib.hid (below_then HB0 hb)
  clear HB0
  clear HB
  have HB := HB1
  clear HB1
  refine ⟨_, rfl, ?_⟩
  refine hK.out _ _ (hHeld.below hb) (fun hHeld => ?_)
  clear hK K
  refine norm_ (a' := ?_) ?_ ?_
  rotate_left
  · show Act.put _ (some 28) _ = _
    simp only [Act.put, List.setIfInBounds_toArray, List.set_cons_zero, List.set_cons_succ]
    rfl
  clear hb
  refine one_ (i := 12) (N := (some 29)) #[true, true, true, true, true, true, true, true, true, true, true, true, true, false, false, false, false, false, false, false, false, false, false, false, false, false, false, false, false, false, false, false, false, false, false, false] rfl rfl (one_of HT_.out (by kernel_rfl)) (by decide) (fun K hK => ?_)
  refine call_ 54 #[.agg Sup.small.cells] (by rfl) rfl (by go_simp) ?_
  refine (slaid_any Sup.small _ Sup.small_ok).mono ?_
  rw [lowS_ok small_sup]
  rintro e wL ⟨vL, rfl, hoL, hb⟩
  obtain ⟨gL, cL, rfl, -, -, -, -⟩ := hoL.form (by rw [enc7_length]; omega)
  rw [enc7_length] at hoL ⊢
  have HBL := Lib.hid (below_then HB.out hb)
  have HoL := Lib.hid hoL.reads
  clear HB hoL
  refine ⟨_, rfl, ?_⟩
  refine hK.out _ _ (hHeld.below hb) (fun hHeld => ?_)
  clear hK K
  refine norm_ (a' := ?_) ?_ ?_
  rotate_left
  · show Act.put _ (some 29) _ = _
    simp only [Act.put, List.setIfInBounds_toArray, List.set_cons_zero, List.set_cons_succ]
    rfl
  clear hb
  have HB := HBL
  clear HBL
  refine one_ (i := 13) (N := (some 30)) #[true, true, true, true, true, true, true, true, true, true, true, true, true, true, false, false, false, false, false, false, false, false, false, false, false, false, false, false, false, false, false, false, false, false, false, false] rfl rfl (one_of HT_.out (by kernel_rfl)) (by decide) (fun K hK => ?_)
  refine value_ (v := .string (strOfNums (enc7 Sup.small))) (by rfl) rfl (by have k9 := conv_str HoL.out; go_simp; rfl) ?_
  refine hK.out _ _ (hHeld) (fun hHeld => ?_)
  clear hK K
  refine norm_ (a' := ?_) ?_ ?_
  rotate_left
  · show Act.put _ (some 30) _ = _
    simp only [Act.put, List.setIfInBounds_toArray, List.set_cons_zero, List.set_cons_succ]
    rfl
  clear HoL
  refine pure_ (i := 14) (N := (some 31)) (v := ?_) (a' := ?_) #[true, true, true, true, true, true, true, true, true, true, true, true, true, true, true, false, false, false, false, false, false, false, false, false, false, false, false, false, false, false, false, false, false, false, false, false] rfl rfl (any_of HT_.out (by kernel_rfl)) (fun _ _ _ h => h) (Or.inl ⟨by rfl, ?_⟩) ?_ ?_
  rotate_left
  · intro w'
    go_simp
    with_reducible rfl
  rotate_left
  · simp only [Act.put, List.setIfInBounds_toArray, List.set_cons_zero, List.set_cons_succ]
    rfl
  refine pure_ (i := 15) (N := (some 32)) (v := ?_) (a' := ?_) #[true, true, true, true, true, true, true, true, true, true, true, true, true, true, true, true, false, false, false, false, false, false, false, false, false, false, false, false, false, false, false, false, false, false, false, false] rfl rfl (any_of HT_.out (by kernel_rfl)) (fun _ _ _ h => h) (Or.inl ⟨by rfl, ?_⟩) ?_ ?_
  rotate_left
  · intro w'
    go_simp
    with_reducible rfl
  rotate_left
  · simp only [Act.put, List.setIfInBounds_toArray, List.set_cons_zero, List.set_cons_succ]
    rfl
  refine pure_ (i := 16) (N := (some 33)) (v := ?_) (a' := ?_) #[true, true, true, true, true, true, true, true, true, true, true, true, true, true, true, true, true, false, false, false, false, false, false, false, false, false, false, false, false, false, false, false, false, false, false, false] rfl rfl (any_of HT_.out (by kernel_rfl)) (fun _ _ _ h => h) (Or.inl ⟨by rfl, ?_⟩) ?_ ?_
  rotate_left
  · intro w'
    go_simp
    with_reducible rfl
  rotate_left
  · simp only [Act.put, List.setIfInBounds_toArray, List.set_cons_zero, List.set_cons_succ]
    rfl
  refine take_ (i := 17) (N := (some 34)) (v := .agg Sup.small.cells) #[true, true, true, true, true, true, true, true, true, true, true, true, true, true, true, true, true, true, false, false, false, false, false, false, false, false, false, false, false, false, false, false, false, false, false, false] rfl rfl (take_of HT_.out (by kernel_rfl)) (fun _ _ _ h => h) (Or.inl ⟨by rfl, fun w' hw' => ex_load hw'.s.load54 rfl rfl⟩) hHeld rfl ?_
  refine norm_ (a' := ?_) ?_ ?_
  rotate_left
  · show Act.put _ (some 34) _ = _
    simp only [Act.put, List.setIfInBounds_toArray, List.set_cons_zero, List.set_cons_succ]
    rfl
  refine one_ (i := 18) (N := (some 35)) #[true, true, true, true, true, true, true, true, true, true, true, true, true, true, true, true, true, true, true, false, false, false, false, false, false, false, false, false, false, false, false, false, false, false, false, false] rfl rfl (one_of HT_.out (by kernel_rfl)) (by decide) (fun K hK => ?_)
  refine call_ 53 #[.agg Sup.small.cells] (by rfl) rfl (by go_simp) ?_
  refine (plain_any Sup.small _).mono ?_
  rintro e wk2 ⟨rfl, hb⟩
  have HB0 := HB.out
  have HB2 := Lib.hid (below_then HB0 hb)
  clear HB0
  clear HB
  have HB := HB2
  clear HB2
  refine ⟨_, rfl, ?_⟩
  refine hK.out _ _ (hHeld.below hb) (fun hHeld => ?_)
  clear hK K
  refine norm_ (a' := ?_) ?_ ?_
  rotate_left
  · show Act.put _ (some 35) _ = _
    simp only [Act.put, List.setIfInBounds_toArray, List.set_cons_zero, List.set_cons_succ]
    rfl
  clear hb
  refine one_ (i := 19) (N := (some 36)) #[true, true, true, true, true, true, true, true, true, true, true, true, true, true, true, true, true, true, true, true, false, false, false, false, false, false, false, false, false, false, false, false, false, false, false, false] rfl rfl (one_of HT_.out (by kernel_rfl)) (by decide) (fun K hK => ?_)
  refine call_ 60 #[] (by rfl) rfl (by go_simp) ?_
  refine (small_any _).mono ?_
  rintro e wk3 ⟨rfl, hb⟩
  have HB0 := HB.out
  have HB3 := Lib.hid (below_then HB0 hb)
  clear HB0
  clear HB
  have HB := HB3
  clear HB3
  refine ⟨_, rfl, ?_⟩
  refine hK.out _ _ (hHeld.below hb) (fun hHeld => ?_)
  clear hK K
  refine norm_ (a' := ?_) ?_ ?_
  rotate_left
  · show Act.put _ (some 36) _ = _
    simp only [Act.put, List.setIfInBounds_toArray, List.set_cons_zero, List.set_cons_succ]
    rfl
  clear hb
  refine pure_ (i := 20) (N := (some 37)) (v := .bool true) #[true, true, true, true, true, true, true, true, true, true, true, true, true, true, true, true, true, true, true, true, true, false, false, false, false, false, false, false, false, false, false, false, false, false, false, false] rfl rfl (any_of HT_.out (by kernel_rfl)) (fun _ _ _ h => h) (Or.inl ⟨by rfl, fun w' => ex_bin (by have h9 := eql51 Sup.small Sup.small w'; rw [supEq_self] at h9; exact h9) rfl rfl rfl (run_eqGuard_agg _ _ _ _ _ _ _ noGuard51)⟩) rfl ?_
  refine norm_ (a' := ?_) ?_ ?_
  rotate_left
  · show Act.put _ (some 37) _ = _
    simp only [Act.put, List.setIfInBounds_toArray, List.set_cons_zero, List.set_cons_succ]
    rfl
  refine pure_ (i := 21) (N := (some 38)) (v := ?_) (a' := ?_) #[true, true, true, true, true, true, true, true, true, true, true, true, true, true, true, true, true, true, true, true, true, true, false, false, false, false, false, false, false, false, false, false, false, false, false, false] rfl rfl (any_of HT_.out (by kernel_rfl)) (fun _ _ _ h => h) (Or.inl ⟨by rfl, ?_⟩) ?_ ?_
  rotate_left
  · intro w'
    go_simp
    with_reducible rfl
  rotate_left
  · simp only [Act.put, List.setIfInBounds_toArray, List.set_cons_zero, List.set_cons_succ]
    rfl
  refine pure_ (i := 22) (N := (some 39)) (v := ?_) (a' := ?_) #[true, true, true, true, true, true, true, true, true, true, true, true, true, true, true, true, true, true, true, true, true, true, true, false, false, false, false, false, false, false, false, false, false, false, false, false] rfl rfl (any_of HT_.out (by kernel_rfl)) (fun _ _ _ h => h) (Or.inl ⟨by rfl, ?_⟩) ?_ ?_
  rotate_left
  · intro w'
    go_simp
    with_reducible rfl
  rotate_left
  · simp only [Act.put, List.setIfInBounds_toArray, List.set_cons_zero, List.set_cons_succ]
    rfl
  refine one_ (i := 23) (N := (some 40)) #[true, true, true, true, true, true, true, true, true, true, true, true, true, true, true, true, true, true, true, true, true, true, true, true, false, false, false, false, false, false, false, false, false, false, false, false] rfl rfl (one_of HT_.out (by kernel_rfl)) (by decide) (fun K hK => ?_)
  refine call_ 60 #[] (by rfl) rfl (by go_simp) ?_
  refine (small_any _).mono ?_
  rintro e wk4 ⟨rfl, hb⟩
  have HB0 := HB.out
  have HB4 := Lib.hid (below_then HB0 hb)
  clear HB0
  clear HB
  have HB := HB4
  clear HB4
  refine ⟨_, rfl, ?_⟩
  refine hK.out _ _ (hHeld.below hb) (fun hHeld => ?_)
  clear hK K
  refine norm_ (a' := ?_) ?_ ?_
  rotate_left
  · show Act.put _ (some 40) _ = _
    simp only [Act.put, List.setIfInBounds_toArray, List.set_cons_zero, List.set_cons_succ]
    rfl
  clear hb
  refine pure_ (i := 24) (N := (some 41)) (v := .agg Sup.small.cfg) #[true, true, true, true, true, true, true, true, true, true, true, true, true, true, true, true, true, true, true, true, true, true, true, true, true, false, false, false, false, false, false, false, false, false, false, false] rfl rfl (any_of HT_.out (by kernel_rfl)) (fun _ _ _ h => h) (Or.inl ⟨by rfl, fun w' => field_sup Sup.small w' rfl rfl⟩) rfl ?_
  refine norm_ (a' := ?_) ?_ ?_
  rotate_left
  · show Act.put _ (some 41) _ = _
    simp only [Act.put, List.setIfInBounds_toArray, List.set_cons_zero, List.set_cons_succ]
    rfl
  refine one_ (i := 25) (N := (some 42)) #[true, true, true, true, true, true, true, true, true, true, true, true, true, true, true, true, true, true, true, true, true, true, true, true, true, true, false, false, false, false, false, false, false, false, false, false] rfl rfl (one_of HT_.out (by kernel_rfl)) (by decide) (fun K hK => ?_)
  refine call_ 50 #[.agg Sup.small.cfg] (by rfl) rfl (by go_simp) ?_
  refine (config_any Sup.small _ Sup.small_ok).mono ?_
  rw [show cfgE Sup.small = 0 by decide]
  rintro e wk5 ⟨rfl, hb⟩
  have HB0 := HB.out
  have HB5 := Lib.hid (below_then HB0 hb)
  clear HB0
  clear HB
  have HB := HB5
  clear HB5
  refine ⟨_, rfl, ?_⟩
  refine hK.out _ _ (hHeld.below hb) (fun hHeld => ?_)
  clear hK K
  refine norm_ (a' := ?_) ?_ ?_
  rotate_left
  · show Act.put _ (some 42) _ = _
    simp only [Act.put, List.setIfInBounds_toArray, List.set_cons_zero, List.set_cons_succ]
    rfl
  clear hb
  refine one_ (i := 26) (N := (some 43)) #[true, true, true, true, true, true, true, true, true, true, true, true, true, true, true, true, true, true, true, true, true, true, true, true, true, true, true, false, false, false, false, false, false, false, false, false] rfl rfl (one_of HT_.out (by kernel_rfl)) (by decide) (fun K hK => ?_)
  refine call_ 34 #[.int .i64 0] (by rfl) rfl (by go_simp) ?_
  refine (snum_any 0 _).mono ?_
  rintro e w' ⟨rfl, rfl⟩
  refine ⟨_, rfl, ?_⟩
  refine hK.out _ _ (hHeld) (fun hHeld => ?_)
  clear hK K
  refine norm_ (a' := ?_) ?_ ?_
  rotate_left
  · show Act.put _ (some 43) _ = _
    simp only [Act.put, List.setIfInBounds_toArray, List.set_cons_zero, List.set_cons_succ]
    rfl
  refine pure_ (i := 27) (N := (some 44)) (v := ?_) (a' := ?_) #[true, true, true, true, true, true, true, true, true, true, true, true, true, true, true, true, true, true, true, true, true, true, true, true, true, true, true, true, false, false, false, false, false, false, false, false] rfl rfl (any_of HT_.out (by kernel_rfl)) (fun _ _ _ h => h) (Or.inl ⟨by rfl, ?_⟩) ?_ ?_
  rotate_left
  · intro w'
    go_simp
    with_reducible rfl
  rotate_left
  · simp only [Act.put, List.setIfInBounds_toArray, List.set_cons_zero, List.set_cons_succ]
    rfl
  refine pure_ (i := 28) (N := (some 45)) (v := ?_) (a' := ?_) #[true, true, true, true, true, true, true, true, true, true, true, true, true, true, true, true, true, true, true, true, true, true, true, true, true, true, true, true, true, false, false, false, false, false, false, false] rfl rfl (any_of HT_.out (by kernel_rfl)) (fun _ _ _ h => h) (Or.inl ⟨by rfl, ?_⟩) ?_ ?_
  rotate_left
  · intro w'
    go_simp
    with_reducible rfl
  rotate_left
  · simp only [Act.put, List.setIfInBounds_toArray, List.set_cons_zero, List.set_cons_succ]
    rfl
  refine pure_ (i := 29) (N := (some 46)) (v := ?_) (a' := ?_) #[true, true, true, true, true, true, true, true, true, true, true, true, true, true, true, true, true, true, true, true, true, true, true, true, true, true, true, true, true, true, false, false, false, false, false, false] rfl rfl (any_of HT_.out (by kernel_rfl)) (fun _ _ _ h => h) (Or.inl ⟨by rfl, ?_⟩) ?_ ?_
  rotate_left
  · intro w'
    go_simp
    with_reducible rfl
  rotate_left
  · simp only [Act.put, List.setIfInBounds_toArray, List.set_cons_zero, List.set_cons_succ]
    rfl
  refine pure_ (i := 30) (N := (some 47)) (v := .agg Sup.zero.cfg) #[true, true, true, true, true, true, true, true, true, true, true, true, true, true, true, true, true, true, true, true, true, true, true, true, true, true, true, true, true, true, true, false, false, false, false, false] rfl rfl (any_of HT_.out (by kernel_rfl)) (fun _ _ _ h => h) (Or.inl ⟨by rfl, fun w' => ex_build b48_none rfl rfl⟩) rfl ?_
  refine norm_ (a' := ?_) ?_ ?_
  rotate_left
  · show Act.put _ (some 47) _ = _
    simp only [Act.put, List.setIfInBounds_toArray, List.set_cons_zero, List.set_cons_succ]
    rfl
  refine one_ (i := 31) (N := (some 48)) #[true, true, true, true, true, true, true, true, true, true, true, true, true, true, true, true, true, true, true, true, true, true, true, true, true, true, true, true, true, true, true, true, false, false, false, false] rfl rfl (one_of HT_.out (by kernel_rfl)) (by decide) (fun K hK => ?_)
  refine call_ 50 #[.agg Sup.zero.cfg] (by rfl) rfl (by go_simp) ?_
  refine (config_any Sup.zero _ Sup.zero_ok).mono ?_
  rw [show cfgE Sup.zero = 3 by decide]
  rintro e wk6 ⟨rfl, hb⟩
  have HB0 := HB.out
  have HB6 := Lib.hid (below_then HB0 hb)
  clear HB0
  clear HB
  have HB := HB6
  clear HB6
  refine ⟨_, rfl, ?_⟩
  refine hK.out _ _ (hHeld.below hb) (fun hHeld => ?_)
  clear hK K
  refine norm_ (a' := ?_) ?_ ?_
  rotate_left
  · show Act.put _ (some 48) _ = _
    simp only [Act.put, List.setIfInBounds_toArray, List.set_cons_zero, List.set_cons_succ]
    rfl
  clear hb
  refine one_ (i := 32) (N := (some 49)) #[true, true, true, true, true, true, true, true, true, true, true, true, true, true, true, true, true, true, true, true, true, true, true, true, true, true, true, true, true, true, true, true, true, false, false, false] rfl rfl (one_of HT_.out (by kernel_rfl)) (by decide) (fun K hK => ?_)
  refine call_ 34 #[.int .i64 3] (by rfl) rfl (by go_simp) ?_
  refine (snum_any 3 _).mono ?_
  rintro e w' ⟨rfl, rfl⟩
  refine ⟨_, rfl, ?_⟩
  refine hK.out _ _ (hHeld) (fun hHeld => ?_)
  clear hK K
  refine norm_ (a' := ?_) ?_ ?_
  rotate_left
  · show Act.put _ (some 49) _ = _
    simp only [Act.put, List.setIfInBounds_toArray, List.set_cons_zero, List.set_cons_succ]
    rfl
  refine pure_ (i := 33) (N := (some 50)) (v := ?_) (a' := ?_) #[true, true, true, true, true, true, true, true, true, true, true, true, true, true, true, true, true, true, true, true, true, true, true, true, true, true, true, true, true, true, true, true, true, true, false, false] rfl rfl (any_of HT_.out (by kernel_rfl)) (fun _ _ _ h => h) (Or.inl ⟨by rfl, ?_⟩) ?_ ?_
  rotate_left
  · intro w'
    go_simp
    with_reducible rfl
  rotate_left
  · simp only [Act.put, List.setIfInBounds_toArray, List.set_cons_zero, List.set_cons_succ]
    rfl
  refine pure_ (i := 34) (N := (some 51)) (v := ?_) (a' := ?_) #[true, true, true, true, true, true, true, true, true, true, true, true, true, true, true, true, true, true, true, true, true, true, true, true, true, true, true, true, true, true, true, true, true, true, true, false] rfl rfl (any_of HT_.out (by kernel_rfl)) (fun _ _ _ h => h) (Or.inl ⟨by rfl, ?_⟩) ?_ ?_
  rotate_left
  · intro w'
    go_simp
    with_reducible rfl
  rotate_left
  · simp only [Act.put, List.setIfInBounds_toArray, List.set_cons_zero, List.set_cons_succ]
    rfl
  refine pure_ (i := 35) (N := (some 0)) (v := ?_) (a' := ?_) #[true, true, true, true, true, true, true, true, true, true, true, true, true, true, true, true, true, true, true, true, true, true, true, true, true, true, true, true, true, true, true, true, true, true, true, true] rfl rfl (any_of HT_.out (by kernel_rfl)) (fun _ _ _ h => h) (Or.inl ⟨by rfl, ?_⟩) ?_ ?_
  rotate_left
  · intro w'
    go_simp
    with_reducible rfl
  rotate_left
  · simp only [Act.put, List.setIfInBounds_toArray, List.set_cons_zero, List.set_cons_succ]
    rfl
  refine done_ (done_of HT_.out (by kernel_rfl)) ?_
  clear HT_ HW_
  go_wp2_with fail
  go_ret
  exact ⟨by simp, HB.out⟩
end Go.Proofs.YtblfmofhfbbmdaaDoor
