/- The walk of the law SuperDecodes: it returns true, and nothing that was there has turned. -/
import Derived.Test.YtblfmofhfbbmdaaDoorSupH
import Derived.Test.YtblfmofhfbbmdaaDoorBox
import Derived.Test.YtblfmofhfbbmdaaDoorTable2
set_option linter.unusedVariables false
set_option linter.unusedSimpArgs false
namespace Go.Proofs.YtblfmofhfbbmdaaDoor
open Go.RowKit Crc Go.Proofs.YtblfmofhfbbmdaaDoorW.PrintWords Go.Proofs.YtblfmofhfbbmdaaDoorW.PrintLast



structure S17 (g4 g6 : Nat) (s : Sup) (u v : Value) (b : List Int) (w : World) : Prop where
  p : SAt 51 w g4 s
  s : SAt 54 w g6 s
  m : RBy w u (b ++ [90, 90])
  r : RBy w v b
theorem S17.below {g4 g6 : Nat} {s : Sup} {u v : Value} {b : List Int} {w w' : World} (h : S17 g4 g6 s u v b w) (hb : Below w.heap.size w w') : S17 g4 g6 s u v b w' :=
  ⟨h.p.below hb, h.s.below hb, h.m.below hb, h.r.below hb⟩
def T17_6 : Bool × List (List Nat × List Nat) := (true, [([], []), ([0], [0]), ([], []), ([1, 2], [1, 2]), ([3, 1], [3]), ([4], [4]), ([5, 4, 4], [4, 5]), ([4], [4]), ([6, 7, 4], [4, 6, 7]), ([4, 8], [4, 8]), ([9, 6], [9]), ([10], [10]), ([11, 10], [10, 11]), ([10], [10]), ([13, 10], [10, 13]), ([14, 10], [10, 14]), ([12, 15, 10], [10, 12, 15]), ([10, 16], [10, 16]), ([17, 10, 0, 1, 2, 3, 4, 5, 6, 7, 8, 9, 10, 11, 12, 13, 14, 15, 16, 17], [17])])
def B17_6 : List Nat := [0, 1, 0, 7, 15, 31, 63, 31, 255, 511, 1023, 2047, 4095, 2047, 10239, 26623, 65535, 131071, 262143]
theorem tab17_6 : rtab .any (opsOf Tryd.f17 6) = T17_6 := by kernel_rfl
theorem bits17_6 : waitsOk T17_6.2 B17_6 = true := by kernel_rfl
theorem svar_made (t : TypeId) (w : World) (s : Sup) : SAt t ((w.alloc (.cells Sup.zero.cells t)).setRow w.heap.size s.cells) w.heap.size s ∧ Below w.heap.size w ((w.alloc (.cells Sup.zero.cells t)).setRow w.heap.size s.cells) :=
  ⟨(SAt.new t w Sup.zero).set, Below.setRow' (below_alloc (Below.refl _ _) _) (Nat.le_refl _) _⟩
theorem str_app (b : List Int) : strOfNums (b ++ [90, 90]) = strOfNums b ++ { data := #[90, 90] } := by
  unfold strOfNums
  rw [show ({ data := #[90, 90] } : ByteArray) = ByteArray.mk ([90, 90] : List UInt8).toArray from rfl, ByteArray.mk_append_mk, List.map_append]
  rfl
theorem str_fits (b : List Int) (h : b.length ≤ 140737488355320) : ¬ (9223372036854775807 < (strOfNums b).size + 2) := by rw [strOfNums_size]; omega
set_option maxRecDepth 100000 in
set_option maxHeartbeats 8000000 in
theorem superDecodes_walk (v : Value) (b : List Int) (w : World) (hv : RBy w v b) (hbl : b.length ≤ reachBytes) (ht : Tabs w) :
    Calls Tryd.prog 17 #[v] w fun e w' => e = .returned (.bool true) ∧ Below w.heap.size w w' := by
  have Ht := Lib.hid ht.1
  have Hw := Lib.hid ht.2
  have Hv := Lib.hid hv
  obtain ⟨A, cb, rfl, hcb⟩ := hv.form
  have hB0 := hv.isB
  have hbl2 : b.length ≤ 140737488355320 := by unfold reachBytes at hbl; omega
  have HL : Hid ((b ++ ([90, 90] : List Int)).length = b.length + 2) := Lib.hid (by simp)
  clear ht hv hbl
  go_enter Tryd.func17, Tryd.ntmps17
  go_wp2_with fail
  refine (awake_any _ Ht.out Hw.out).mono ?_
  rintro e w1 ⟨rfl, hb1⟩
  have Hv1 := Hv.out.below hb1
  go_wp2_with (first
    | (at_builtin; refine wpList_app rfl (.tmp 10) (.tmp 11) 25 rfl Tryd.underlying25 info5 w1.heap.size (.slice (some ⟨w1.heap.size, 0, none⟩) 0 0) _ [] b rfl rfl (own_empty w1) (Hv1.below (below_alloc (Below.refl _ _) _)) (by simp; omega) (by simp) ?_; intro v2 w2 ho2 hg2 _; rw [List.nil_append] at ho2)
    | (at_builtin; refine wpList_app rfl (.tmp 12) (.tmp 13) 25 rfl Tryd.underlying25 info5 w1.heap.size v2 _ b [90, 90] rfl rfl (ho2.below (below_alloc (Below.refl _ _) _)) (RBy.row (heap_top _ _ _ rfl) _ (isB_lit [90, 90] (by decide)) 2 (Nat.le_refl _) (by decide) rfl) (by simp <;> omega) (by have := hg2.size; simp at this ⊢; omega) ?_; intro v3 w3 ho3 hg3 _; obtain ⟨g, c, rfl, hgb, hgc, -, -⟩ := ho3.form (by simp); rw [HL.out] at ho3 hgc ⊢))
  have hb2 : Below w.heap.size w w2 := below_grown (below_alloc hb1 _) (own_empty w1) hb1.size hg2
  have hb3 := below_grown (below_alloc hb2 _) (ho2.below (below_alloc (Below.refl _ _) _)) hb1.size hg3
  have Ho3 := Lib.hid (ho3.lower (b2 := w.heap.size) hb1.size)
  have Hb3 := Lib.hid hb3
  have Hv3 := Lib.hid (Hv.out.below hb3)
  clear hb1 hb2 hb3 ho2 ho3 hg2 hg3 Hv1 hgb
  go_wp2_with fail
  refine (rsdec_any _ b _ Hv3.out).mono ?_
  obtain ⟨ex, hex⟩ : ∃ ex, sdecE b = ex := ⟨_, rfl⟩
  obtain ⟨X, hX⟩ : ∃ X, sdecV b = X := ⟨_, rfl⟩
  rw [hex, hX]
  have Hex := Lib.hid hex
  have HX := Lib.hid hX
  clear hex hX
  rintro e w4 ⟨rfl, hb4⟩
  have hv4 := svar_made 51 w4 X
  have HZ4 := Lib.hid (SAt.new 51 w4 Sup.zero)
  have hq4 := below_then hb4 hv4.2
  have HP4 := Lib.hid hv4.1
  have Hb4 := Lib.hid (below_then Hb3.out hq4)
  have Ho4 := Lib.hid (Ho3.out.below hq4)
  clear hv4 hb4 hq4 Hb3 Ho3 Hv3
  go_upto_region 5 with (first
    | (refine go_value (o := ⟨_, .alloc 51, _, _, _, _⟩) (by rfl) (ex_alloc (run_alloc51 _) rfl) ?_)
    | (refine go_skip (o := ⟨none, .store 51 _ _, _, _, _, _⟩) (by rfl) (ex_store (HZ4.out.store51 (s := X)) rfl rfl rfl) ?_)
    | fail)
  generalize hg4 : w4.heap.size = g4 at HP4 Hb4 Ho4 ⊢
  generalize (w4.alloc (.cells Sup.zero.cells 51)).setRow g4 X.cells = w5 at HP4 Hb4 Ho4 ⊢
  clear hg4 HZ4
  have Hm5 : Hid (RBy w5 (.slice (some ⟨g, 0, none⟩) b.length c) b) := Lib.hid (by
    have h := Ho4.out.reads.first (m := b.length) (by simp)
    rwa [List.take_left] at h)
  have Ht5 := Lib.hid (Ht.out.below Hb4.out)
  have Hw5 := Lib.hid (Hw.out.below Hb4.out)
  go_wp2_with fail
  refine (sdec_any _ b _ Hm5.out Ht5.out Hw5.out).mono ?_
  rw [Hex.out, HX.out]
  rintro e w6 ⟨rfl, hb6⟩
  have hv6 := svar_made 54 w6 X
  have HZ6 := Lib.hid (SAt.new 54 w6 Sup.zero)
  have hq6 := below_then hb6 hv6.2
  have HP6 := Lib.hid (HP4.out.below hq6)
  have HS6 := Lib.hid hv6.1
  have Hb6 := Lib.hid (below_then Hb4.out hq6)
  have Ho6 := Lib.hid (Ho4.out.below hq6)
  clear hv6 hb6 hq6 HP4 Hb4 Ho4 Hm5 Ht5 Hw5
  go_upto_region 6 with (first
    | (refine go_value (o := ⟨_, .alloc 54, _, _, _, _⟩) (by rfl) (ex_alloc (run_alloc54 _) rfl) ?_)
    | (refine go_skip (o := ⟨none, .store 54 _ _, _, _, _, _⟩) (by rfl) (ex_store (HZ6.out.store54 (s := X)) rfl rfl rfl) ?_)
    | fail)
  generalize hg6 : w6.heap.size = g6 at HP6 HS6 Hb6 Ho6 ⊢
  generalize (w6.alloc (.cells Sup.zero.cells 54)).setRow g6 X.cells = w7 at HP6 HS6 Hb6 Ho6 ⊢
  clear hg6 HZ6
  have hmr : RBy w7 (.slice (some ⟨g, 0, none⟩) (b.length + 2) c) (b ++ [90, 90]) := Ho6.out.reads
  have hS0 : S17 g4 g6 X (.slice (some ⟨g, 0, none⟩) (b.length + 2) c) (.slice A b.length cb) b w7.drew := (S17.mk HP6.out HS6.out hmr (Hv.out.below Hb6.out)).below (below_drew (Below.refl _ _))
  have HB := Lib.hid (below_drew Hb6.out)
  have hst := str_app b
  have hfits := str_fits b hbl2
  clear HP6 HS6 Hb6 Ho6 hmr
  refine start_ (n := 19) (S := S17 g4 g6 X (.slice (some ⟨g, 0, none⟩) (b.length + 2) c) (.slice A b.length cb) b) (ds := []) #[false, false, false, false, false, false, false, false, false, false, false, false, false, false, false, false, false, false, false] (by kernel_rfl) rfl rfl (hS0) (fun hHeld => ?_); refine with_tabW tab17_6 bits17_6 (fun HT_ HW_ => ?_)
  clear hS0
  generalize w7.drew = w7d at HB hHeld ⊢
  refine pure_ (i := 0) (N := (some 28)) (v := ?_) (a' := ?_) #[true, false, false, false, false, false, false, false, false, false, false, false, false, false, false, false, false, false, false] rfl rfl (any_of HT_.out (by kernel_rfl)) (fun _ _ _ h => h) (Or.inl ⟨by rfl, ?_⟩) ?_ ?_
  rotate_left
  · intro w'
    go_simp
    with_reducible rfl
  rotate_left
  · simp only [Act.put, List.setIfInBounds_toArray, List.set_cons_zero, List.set_cons_succ]
    rfl
  refine pure_ (i := 2) (N := (some 30)) (v := ?_) (a' := ?_) #[true, false, true, false, false, false, false, false, false, false, false, false, false, false, false, false, false, false, false] rfl rfl (any_of HT_.out (by kernel_rfl)) (fun _ _ _ h => h) (Or.inl ⟨by rfl, ?_⟩) ?_ ?_
  rotate_left
  · intro w'
    go_simp
    with_reducible rfl
  rotate_left
  · simp only [Act.put, List.setIfInBounds_toArray, List.set_cons_zero, List.set_cons_succ]
    rfl
  refine one_ (i := 1) (N := (some 29)) #[true, true, true, false, false, false, false, false, false, false, false, false, false, false, false, false, false, false, false] rfl rfl (one_of HT_.out (by kernel_rfl)) (by decide) (fun K hK => ?_)
  refine call_ 34 #[.int .i64 ex] (by rfl) rfl (by go_simp) ?_
  refine (snum_any ex _).mono ?_
  rintro e w' ⟨rfl, rfl⟩
  refine ⟨_, rfl, ?_⟩
  refine hK.out _ _ (hHeld) (fun hHeld => ?_)
  clear hK K
  refine norm_ (a' := ?_) ?_ ?_
  rotate_left
  · show Act.put _ (some 29) _ = _
    simp only [Act.put, List.setIfInBounds_toArray, List.set_cons_zero, List.set_cons_succ]
    rfl
  refine pure_ (i := 3) (N := (some 31)) (v := ?_) (a' := ?_) #[true, true, true, true, false, false, false, false, false, false, false, false, false, false, false, false, false, false, false] rfl rfl (any_of HT_.out (by kernel_rfl)) (fun _ _ _ h => h) (Or.inl ⟨by rfl, ?_⟩) ?_ ?_
  rotate_left
  · intro w'
    go_simp
    with_reducible rfl
  rotate_left
  · simp only [Act.put, List.setIfInBounds_toArray, List.set_cons_zero, List.set_cons_succ]
    rfl
  refine pure_ (i := 4) (N := (some 32)) (v := ?_) (a' := ?_) #[true, true, true, true, true, false, false, false, false, false, false, false, false, false, false, false, false, false, false] rfl rfl (any_of HT_.out (by kernel_rfl)) (fun _ _ _ h => h) (Or.inl ⟨by rfl, ?_⟩) ?_ ?_
  rotate_left
  · intro w'
    go_simp
    with_reducible rfl
  rotate_left
  · simp only [Act.put, List.setIfInBounds_toArray, List.set_cons_zero, List.set_cons_succ]
    rfl
  refine take_ (i := 5) (N := (some 33)) (v := .agg X.cells) #[true, true, true, true, true, true, false, false, false, false, false, false, false, false, false, false, false, false, false] rfl rfl (take_of HT_.out (by kernel_rfl)) (fun _ _ _ h => h) (Or.inl ⟨by rfl, fun w' hw' => ex_load hw'.s.load54 rfl rfl⟩) hHeld rfl ?_
  refine norm_ (a' := ?_) ?_ ?_
  rotate_left
  · show Act.put _ (some 33) _ = _
    simp only [Act.put, List.setIfInBounds_toArray, List.set_cons_zero, List.set_cons_succ]
    rfl
  refine take_ (i := 7) (N := (some 35)) (v := .agg X.cells) #[true, true, true, true, true, true, false, true, false, false, false, false, false, false, false, false, false, false, false] rfl rfl (take_of HT_.out (by kernel_rfl)) (fun _ _ _ h => h) (Or.inl ⟨by rfl, fun w' hw' => ex_load hw'.p.load51 rfl rfl⟩) hHeld rfl ?_
  refine norm_ (a' := ?_) ?_ ?_
  rotate_left
  · show Act.put _ (some 35) _ = _
    simp only [Act.put, List.setIfInBounds_toArray, List.set_cons_zero, List.set_cons_succ]
    rfl
  refine one_ (i := 6) (N := (some 34)) #[true, true, true, true, true, true, true, true, false, false, false, false, false, false, false, false, false, false, false] rfl rfl (one_of HT_.out (by kernel_rfl)) (by decide) (fun K hK => ?_)
  refine call_ 53 #[.agg X.cells] (by rfl) rfl (by go_simp) ?_
  refine (plain_any X _).mono ?_
  rintro e w8 ⟨rfl, hb8⟩
  have HB8 := Lib.hid (below_then HB.out hb8)
  clear HB
  refine ⟨_, rfl, ?_⟩
  refine hK.out _ _ (hHeld.below hb8) (fun hHeld => ?_)
  clear hK K
  refine norm_ (a' := ?_) ?_ ?_
  rotate_left
  · show Act.put _ (some 34) _ = _
    simp only [Act.put, List.setIfInBounds_toArray, List.set_cons_zero, List.set_cons_succ]
    rfl
  clear hb8
  refine pure_ (i := 8) (N := (some 36)) (v := .bool true) #[true, true, true, true, true, true, true, true, true, false, false, false, false, false, false, false, false, false, false] rfl rfl (any_of HT_.out (by kernel_rfl)) (fun _ _ _ h => h) (Or.inl ⟨by rfl, fun w' => ex_bin (by have h9 := eql51 X X w'; rw [supEq_self] at h9; exact h9) rfl rfl rfl (run_eqGuard_agg _ _ _ _ _ _ _ noGuard51)⟩) rfl ?_
  refine norm_ (a' := ?_) ?_ ?_
  rotate_left
  · show Act.put _ (some 36) _ = _
    simp only [Act.put, List.setIfInBounds_toArray, List.set_cons_zero, List.set_cons_succ]
    rfl
  refine pure_ (i := 9) (N := (some 37)) (v := ?_) (a' := ?_) #[true, true, true, true, true, true, true, true, true, true, false, false, false, false, false, false, false, false, false] rfl rfl (any_of HT_.out (by kernel_rfl)) (fun _ _ _ h => h) (Or.inl ⟨by rfl, ?_⟩) ?_ ?_
  rotate_left
  · intro w'
    go_simp
    with_reducible rfl
  rotate_left
  · simp only [Act.put, List.setIfInBounds_toArray, List.set_cons_zero, List.set_cons_succ]
    rfl
  refine pure_ (i := 10) (N := (some 38)) (v := ?_) (a' := ?_) #[true, true, true, true, true, true, true, true, true, true, true, false, false, false, false, false, false, false, false] rfl rfl (any_of HT_.out (by kernel_rfl)) (fun _ _ _ h => h) (Or.inl ⟨by rfl, ?_⟩) ?_ ?_
  rotate_left
  · intro w'
    go_simp
    with_reducible rfl
  rotate_left
  · simp only [Act.put, List.setIfInBounds_toArray, List.set_cons_zero, List.set_cons_succ]
    rfl
  refine pure_ (i := 11) (N := (some 39)) (v := ?_) (a' := ?_) #[true, true, true, true, true, true, true, true, true, true, true, true, false, false, false, false, false, false, false] rfl rfl (any_of HT_.out (by kernel_rfl)) (fun _ _ _ h => h) (Or.inl ⟨by rfl, ?_⟩) ?_ ?_
  rotate_left
  · intro w'
    go_simp
    with_reducible rfl
  rotate_left
  · simp only [Act.put, List.setIfInBounds_toArray, List.set_cons_zero, List.set_cons_succ]
    rfl
  refine take_ (i := 12) (N := (some 40)) (v := ?_) (a' := ?_) #[true, true, true, true, true, true, true, true, true, true, true, true, true, false, false, false, false, false, false] rfl rfl (take_of HT_.out (by kernel_rfl)) (fun _ _ _ h => h) (Or.inl ⟨by rfl, ?_⟩) hHeld ?_ ?_
  rotate_left
  · intro w' hw'
    have k9 := conv_str hw'.m
    go_simp
    with_reducible rfl
  rotate_left
  · simp only [Act.put, List.setIfInBounds_toArray, List.set_cons_zero, List.set_cons_succ]
    rfl
  refine pure_ (i := 13) (N := (some 41)) (v := ?_) (a' := ?_) #[true, true, true, true, true, true, true, true, true, true, true, true, true, true, false, false, false, false, false] rfl rfl (any_of HT_.out (by kernel_rfl)) (fun _ _ _ h => h) (Or.inl ⟨by rfl, ?_⟩) ?_ ?_
  rotate_left
  · intro w'
    go_simp
    with_reducible rfl
  rotate_left
  · simp only [Act.put, List.setIfInBounds_toArray, List.set_cons_zero, List.set_cons_succ]
    rfl
  refine take_ (i := 14) (N := (some 42)) (v := ?_) (a' := ?_) #[true, true, true, true, true, true, true, true, true, true, true, true, true, true, true, false, false, false, false] rfl rfl (take_of HT_.out (by kernel_rfl)) (fun _ _ _ h => h) (Or.inl ⟨by rfl, ?_⟩) hHeld ?_ ?_
  rotate_left
  · intro w' hw'
    have k9 := conv_str hw'.r
    go_simp
    with_reducible rfl
  rotate_left
  · simp only [Act.put, List.setIfInBounds_toArray, List.set_cons_zero, List.set_cons_succ]
    rfl
  refine pure_ (i := 15) (N := (some 43)) (v := ?_) (a' := ?_) #[true, true, true, true, true, true, true, true, true, true, true, true, true, true, true, true, false, false, false] rfl rfl (any_of HT_.out (by kernel_rfl)) (fun _ _ _ h => h) (Or.inl ⟨by rfl, ?_⟩) ?_ ?_
  rotate_left
  · intro w'
    go_simp
    with_reducible rfl
  rotate_left
  · simp only [Act.put, List.setIfInBounds_toArray, List.set_cons_zero, List.set_cons_succ]
    rfl
  clear hfits
  rw [← hst]
  clear hst
  refine pure_ (i := 16) (N := (some 44)) (v := ?_) (a' := ?_) #[true, true, true, true, true, true, true, true, true, true, true, true, true, true, true, true, true, false, false] rfl rfl (any_of HT_.out (by kernel_rfl)) (fun _ _ _ h => h) (Or.inl ⟨by rfl, ?_⟩) ?_ ?_
  rotate_left
  · intro w'
    go_simp
    with_reducible rfl
  rotate_left
  · simp only [Act.put, List.setIfInBounds_toArray, List.set_cons_zero, List.set_cons_succ]
    rfl
  refine pure_ (i := 17) (N := (some 45)) (v := ?_) (a' := ?_) #[true, true, true, true, true, true, true, true, true, true, true, true, true, true, true, true, true, true, false] rfl rfl (any_of HT_.out (by kernel_rfl)) (fun _ _ _ h => h) (Or.inl ⟨by rfl, ?_⟩) ?_ ?_
  rotate_left
  · intro w'
    go_simp
    with_reducible rfl
  rotate_left
  · simp only [Act.put, List.setIfInBounds_toArray, List.set_cons_zero, List.set_cons_succ]
    rfl
  refine pure_ (i := 18) (N := (some 2)) (v := ?_) (a' := ?_) #[true, true, true, true, true, true, true, true, true, true, true, true, true, true, true, true, true, true, true] rfl rfl (any_of HT_.out (by kernel_rfl)) (fun _ _ _ h => h) (Or.inl ⟨by rfl, ?_⟩) ?_ ?_
  rotate_left
  · intro w'
    go_simp
    with_reducible rfl
  rotate_left
  · simp only [Act.put, List.setIfInBounds_toArray, List.set_cons_zero, List.set_cons_succ]
    rfl
  refine done_ (done_of HT_.out (by kernel_rfl)) ?_
  clear HT_ HW_
  go_wp2_with fail
  go_ret
  exact ⟨by simp, HB8.out⟩
end Go.Proofs.YtblfmofhfbbmdaaDoor
