/- The walk of the law RecordDecodes: it returns true, and nothing that was there has turned. -/
import Derived.Test.YtblfmofhfbbmdaaDoorRecC
import Derived.Test.YtblfmofhfbbmdaaDoorRoom
set_option linter.unusedVariables false
set_option linter.unusedSimpArgs false
namespace Go.Proofs.YtblfmofhfbbmdaaDoor
open Go.RowKit Crc Go.Proofs.YtblfmofhfbbmdaaDoorW.PrintWords Go.Proofs.YtblfmofhfbbmdaaDoorW.PrintLast

/-- (at % n + n) % n, at any number. -/
theorem place_len (a : Int) (n : Nat) (h : 0 < n) (hn : n ≤ 4611686018427387904) : ∃ k : Nat, k < n ∧ (wrap64 (a.tmod (n : Int) + (n : Int))).tmod (n : Int) = (k : Int) := by
  have hp : 0 < (n : Int) := by omega
  have h1 := Int.tmod_lt_of_pos a hp
  have h2 : -(n : Int) < a.tmod (n : Int) := Int.lt_tmod_of_pos a hp
  generalize a.tmod (n : Int) = r at h1 h2
  rw [show wrap64 (r + (n : Int)) = r + (n : Int) by unfold wrap64; omega]
  have h3 := Int.tmod_lt_of_pos (r + (n : Int)) hp
  have h5 := Int.tmod_nonneg (b := (n : Int)) (a := r + (n : Int)) (by omega)
  exact ⟨((r + (n : Int)).tmod (n : Int)).toNat, by omega, by omega⟩
/-- What the tests read. -/
structure S13 (gx gp : Nat) (r : Rec) (w : World) : Prop where
  x : At 66 w gx r
  p : At 71 w gp r
theorem S13.below {gx gp : Nat} {r : Rec} {w w' : World} (h : S13 gx gp r w) (hb : Below w.heap.size w w') : S13 gx gp r w' := ⟨h.x.below hb, h.p.below hb⟩
/-- What else is known. -/
structure K13 (w0 : World) (g c g8 : Nat) (u : Value) (b : List Int) (X : Rec) (w : World) : Prop where
  be : Below w0.heap.size w0 w
  ob : OB w w0.heap.size (.slice (some ⟨g, 0, none⟩) (b.length + 3) c) (b ++ [77, 78, 79])
  m : RBy w (.slice (some ⟨g, 0, none⟩) (b.length + 3) c) (b ++ [77, 78, 79])
  r : RBy w u b
  x : At 66 w g8 X
theorem K13.below {w0 : World} {g c g8 : Nat} {u : Value} {b : List Int} {X : Rec} {w w' : World} (h : K13 w0 g c g8 u b X w) (hb : Below w.heap.size w w') : K13 w0 g c g8 u b X w' :=
  ⟨below_then h.be hb, h.ob.below hb, h.m.below hb, h.r.below hb, h.x.below hb⟩
structure S18 (gx gp : Nat) (r : Rec) (u v : Value) (B : List Int) (w : World) : Prop where
  x : At 66 w gx r
  p : At 71 w gp r
  m : RBy w u B
  o : RBy w v B
theorem S18.below {gx gp : Nat} {r : Rec} {u v : Value} {B : List Int} {w w' : World} (h : S18 gx gp r u v B w) (hb : Below w.heap.size w w') : S18 gx gp r u v B w' := ⟨h.x.below hb, h.p.below hb, h.m.below hb, h.o.below hb⟩
structure Y13 (w0 : World) (u v : Value) (b : List Int) (w : World) : Prop where
  be : Below w0.heap.size w0 w
  m : RBy w u b
  o : RBy w v b
theorem Y13.below {w0 : World} {u v : Value} {b : List Int} {w w' : World} (h : Y13 w0 u v b w) (hb : Below w.heap.size w w') : Y13 w0 u v b w' :=
  ⟨below_then h.be hb, h.m.below hb, h.o.below hb⟩
def T13_6 : Bool × List (List Nat × List Nat) := (true, [([], []), ([], []), ([0, 1], [0, 1]), ([2], [2]), ([3], [3]), ([4, 3, 3], [3, 4]), ([3], [3]), ([5, 6, 3], [3, 5, 6]), ([3, 7], [3, 7]), ([8, 5], [8]), ([9], [9]), ([9], [9]), ([10, 11, 9, 9], [9, 10, 11]), ([12, 9], [9, 12]), ([9, 13], [9, 13])])
def B13_6 : List Nat := [0, 0, 3, 7, 15, 31, 15, 127, 255, 511, 1023, 1023, 4095, 8191, 16383]
theorem tab13_6 : rtab .any (opsOf Tryd.f13 6) = T13_6 := by kernel_rfl
theorem bits13_6 : waitsOk T13_6.2 B13_6 = true := by kernel_rfl
def T13_18 : Bool × List (List Nat × List Nat) := (true, [([], []), ([], []), ([0, 1], [0, 1]), ([2], [2]), ([3], [3]), ([4, 3, 3], [3, 4]), ([3], [3]), ([5, 6, 3], [3, 5, 6]), ([3, 7], [3, 7]), ([8, 5], [8]), ([9], [9]), ([10, 9], [9, 10]), ([9], [9]), ([12, 9], [9, 12]), ([11, 13, 9], [9, 11, 13]), ([9, 14], [9, 14]), ([15, 9, 0, 1, 2, 3, 4, 5, 6, 7, 8, 9, 10, 11, 12, 13, 14, 15], [15])])
def B13_18 : List Nat := [0, 0, 3, 7, 15, 31, 15, 127, 255, 511, 1023, 2047, 1023, 5119, 16383, 32767, 65535]
theorem tab13_18 : rtab .any (opsOf Tryd.f13 18) = T13_18 := by kernel_rfl
theorem bits13_18 : waitsOk T13_18.2 B13_18 = true := by kernel_rfl
set_option maxRecDepth 100000 in
set_option maxHeartbeats 8000000 in
theorem recordDecodes_walk (v : Value) (b : List Int) (at1 x : Int) (w : World) (hv : RBy w v b) (hbl : b.length ≤ reachBytes) (hat : -9223372036854775808 ≤ at1 ∧ at1 ≤ 9223372036854775807) (hx : 0 ≤ x ∧ x < 256) (ht : Tab w) :
    Calls Tryd.prog 13 #[v, .int .i64 at1, .int .u8 x] w fun e w' => e = .returned (.bool true) ∧ Below w.heap.size w w' := by
  have Ht := Lib.hid ht
  have Hv := Lib.hid hv
  obtain ⟨A, cb, rfl, hcb⟩ := hv.form
  have hB0 := hv.isB
  have hbl2 : b.length ≤ 140737488355320 := by unfold reachBytes at hbl; omega
  clear ht hv hbl
  go_enter Tryd.func13, Tryd.ntmps13
  go_wp2_with fail
  refine (fixed6_any _ Ht.out).mono ?_
  rintro e w1 ⟨rfl, hb1⟩
  go_wp2_with fail
  refine (roomy_any _ b _ (Hv.out.below hb1) hbl2).mono ?_
  rintro e w2 ⟨g, c, rfl, hgc, ho2, hb2⟩
  have Hb2 := Lib.hid (below_then hb1 hb2)
  have Ho2 := Lib.hid (ho2.lower hb1.size)
  have Hm2 := Lib.hid (ho2.front rfl).reads
  clear hb1 hb2 ho2
  go_wp2_with fail
  refine (decode_any _ b _ Hm2.out (Ht.out.below Hb2.out)).mono ?_
  have hXn := decV_n b
  have hXo := decV_ok b hB0
  obtain ⟨ex, hex⟩ : ∃ ex, decE b = ex := ⟨_, rfl⟩
  obtain ⟨X, hX⟩ : ∃ X, decV b = X := ⟨_, rfl⟩
  rw [hex, hX]
  rw [hX] at hXn hXo
  have Hex := Lib.hid hex
  have HX := Lib.hid hX
  clear hex hX
  rintro e w3 ⟨rfl, hb3⟩
  have hv3 := var_made 66 w3 X
  have HZ3 := Lib.hid (At.new 66 w3 Rec.zero)
  have hq3 := below_then hb3 hv3.2
  have HX3 := Lib.hid hv3.1
  have Hb3 := Lib.hid (below_then Hb2.out hq3)
  have Ho3 := Lib.hid (Ho2.out.below hq3)
  clear hv3 hb3 hq3 Hb2 Ho2 Hm2
  go_upto_region 5 with (first
    | (refine go_value (o := ⟨_, .alloc 66, _, _, _, _⟩) (by rfl) (ex_alloc (run_alloc66 _) rfl) ?_)
    | (refine go_skip (o := ⟨none, .store 66 _ _, _, _, _, _⟩) (by rfl) (ex_store (HZ3.out.store66 zero_n (s := X) hXn) rfl rfl rfl) ?_)
    | fail)
  generalize hg8 : w3.heap.size = g8 at HX3 Hb3 Ho3 ⊢
  generalize (w3.alloc (.cells Rec.zero.cells 66)).setRow g8 X.cells = w4 at HX3 Hb3 Ho3 ⊢
  clear hg8 HZ3
  have Hr4 := Lib.hid (Hv.out.below Hb3.out)
  go_wp2_with fail
  refine (rdecode_any _ b _ Hr4.out).mono ?_
  rw [Hex.out, HX.out]
  rintro e w5' ⟨rfl, hb5⟩
  have hv5 := var_made 71 w5' X
  have HZ5 := Lib.hid (At.new 71 w5' Rec.zero)
  have hq5 := below_then hb5 hv5.2
  have HX5 := Lib.hid (HX3.out.below hq5)
  have HP5 := Lib.hid hv5.1
  have Hb5 := Lib.hid (below_then Hb3.out hq5)
  have Ho5 := Lib.hid (Ho3.out.below hq5)
  clear hv5 hb5 hq5 Hb3 Ho3 Hr4 HX3
  go_upto_region 6 with (first
    | (refine go_value (o := ⟨_, .alloc 71, _, _, _, _⟩) (by rfl) (ex_alloc (run_alloc71 _) rfl) ?_)
    | (refine go_skip (o := ⟨none, .store 71 _ _, _, _, _, _⟩) (by rfl) (ex_store (HZ5.out.store71 zero_n (s := X) hXn) rfl rfl rfl) ?_)
    | fail)
  generalize hg10 : w5'.heap.size = g10 at HX5 HP5 Hb5 Ho5 ⊢
  generalize (w5'.alloc (.cells Rec.zero.cells 71)).setRow g10 X.cells = w5 at HX5 HP5 Hb5 Ho5 ⊢
  clear hg10 HZ5
  have hS0 : S13 g8 g10 X w5.drew := (S13.mk HX5.out HP5.out).below (below_drew (Below.refl _ _))
  have HK : Hid (K13 w g c g8 (.slice A b.length cb) b X w5.drew) := (K13.mk Hb5.out Ho5.out Ho5.out.reads (Hv.out.below Hb5.out) HX5.out).below (below_drew (Below.refl _ _))
  clear HX5 HP5 Hb5 Ho5
  refine start_ (n := 15) (S := S13 g8 g10 X) (ds := []) #[false, false, false, false, false, false, false, false, false, false, false, false, false, false, false] (by kernel_rfl) rfl rfl (hS0) (fun hHeld => ?_); refine with_tabW tab13_6 bits13_6 (fun HT_ HW_ => ?_)
  clear hS0
  generalize w5.drew = w5d at HK hHeld ⊢
  refine pure_ (i := 0) (N := (some 34)) (v := ?_) (a' := ?_) #[true, false, false, false, false, false, false, false, false, false, false, false, false, false, false] rfl rfl (any_of HT_.out (by kernel_rfl)) (fun _ _ _ h => h) (Or.inl ⟨by rfl, ?_⟩) ?_ ?_
  rotate_left
  · intro w'
    go_simp
    with_reducible rfl
  rotate_left
  · simp only [Act.put, List.setIfInBounds_toArray, List.set_cons_zero, List.set_cons_succ]
    rfl
  refine pure_ (i := 1) (N := (some 35)) (v := ?_) (a' := ?_) #[true, true, false, false, false, false, false, false, false, false, false, false, false, false, false] rfl rfl (any_of HT_.out (by kernel_rfl)) (fun _ _ _ h => h) (Or.inl ⟨by rfl, ?_⟩) ?_ ?_
  rotate_left
  · intro w'
    go_simp
    with_reducible rfl
  rotate_left
  · simp only [Act.put, List.setIfInBounds_toArray, List.set_cons_zero, List.set_cons_succ]
    rfl
  refine pure_ (i := 2) (N := (some 36)) (v := ?_) (a' := ?_) #[true, true, true, false, false, false, false, false, false, false, false, false, false, false, false] rfl rfl (any_of HT_.out (by kernel_rfl)) (fun _ _ _ h => h) (Or.inl ⟨by rfl, ?_⟩) ?_ ?_
  rotate_left
  · intro w'
    go_simp
    with_reducible rfl
  rotate_left
  · simp only [Act.put, List.setIfInBounds_toArray, List.set_cons_zero, List.set_cons_succ]
    rfl
  refine pure_ (i := 3) (N := (some 37)) (v := ?_) (a' := ?_) #[true, true, true, true, false, false, false, false, false, false, false, false, false, false, false] rfl rfl (any_of HT_.out (by kernel_rfl)) (fun _ _ _ h => h) (Or.inl ⟨by rfl, ?_⟩) ?_ ?_
  rotate_left
  · intro w'
    go_simp
    with_reducible rfl
  rotate_left
  · simp only [Act.put, List.setIfInBounds_toArray, List.set_cons_zero, List.set_cons_succ]
    rfl
  refine take_ (i := 4) (N := (some 38)) (v := .agg X.cells) #[true, true, true, true, true, false, false, false, false, false, false, false, false, false, false] rfl rfl (take_of HT_.out (by kernel_rfl)) (fun _ _ _ h => h) (Or.inl ⟨by rfl, fun w' hw' => ex_load (hw'.x.load66 hXn) rfl rfl⟩) hHeld rfl ?_
  refine norm_ (a' := ?_) ?_ ?_
  rotate_left
  · show Act.put _ (some 38) _ = _
    simp only [Act.put, List.setIfInBounds_toArray, List.set_cons_zero, List.set_cons_succ]
    rfl
  refine take_ (i := 6) (N := (some 40)) (v := .agg X.cells) #[true, true, true, true, true, false, true, false, false, false, false, false, false, false, false] rfl rfl (take_of HT_.out (by kernel_rfl)) (fun _ _ _ h => h) (Or.inl ⟨by rfl, fun w' hw' => ex_load (hw'.p.load71 hXn) rfl rfl⟩) hHeld rfl ?_
  refine norm_ (a' := ?_) ?_ ?_
  rotate_left
  · show Act.put _ (some 40) _ = _
    simp only [Act.put, List.setIfInBounds_toArray, List.set_cons_zero, List.set_cons_succ]
    rfl
  refine one_ (i := 5) (N := (some 39)) #[true, true, true, true, true, true, true, false, false, false, false, false, false, false, false] rfl rfl (one_of HT_.out (by kernel_rfl)) (by decide) (fun K hK => ?_)
  refine call_ 45 #[.agg X.cells] (by rfl) rfl (by go_simp) ?_
  refine (plain_rec X _ hXo).mono ?_
  rintro e w6 ⟨rfl, hb⟩
  have HK6 := Lib.hid (HK.out.below hb)
  refine ⟨_, rfl, ?_⟩
  refine hK.out _ _ (hHeld.below hb) (fun hHeld => ?_)
  clear hK K
  refine norm_ (a' := ?_) ?_ ?_
  rotate_left
  · show Act.put _ (some 39) _ = _
    simp only [Act.put, List.setIfInBounds_toArray, List.set_cons_zero, List.set_cons_succ]
    rfl
  refine pure_ (i := 7) (N := (some 41)) (v := .bool false) #[true, true, true, true, true, true, true, true, false, false, false, false, false, false, false] rfl rfl (any_of HT_.out (by kernel_rfl)) (fun _ _ _ h => h) (Or.inl ⟨by rfl, fun w' => ex_bin (by have h9 := neq71 X X hXn hXn w'; rw [recEq_self] at h9; exact h9) rfl rfl rfl (run_eqGuard_agg _ _ _ _ _ _ _ noGuard71)⟩) rfl ?_
  refine norm_ (a' := ?_) ?_ ?_
  rotate_left
  · show Act.put _ (some 41) _ = _
    simp only [Act.put, List.setIfInBounds_toArray, List.set_cons_zero, List.set_cons_succ]
    rfl
  refine pure_ (i := 8) (N := (some 42)) (v := ?_) (a' := ?_) #[true, true, true, true, true, true, true, true, true, false, false, false, false, false, false] rfl rfl (any_of HT_.out (by kernel_rfl)) (fun _ _ _ h => h) (Or.inl ⟨by rfl, ?_⟩) ?_ ?_
  rotate_left
  · intro w'
    go_simp
    with_reducible rfl
  rotate_left
  · simp only [Act.put, List.setIfInBounds_toArray, List.set_cons_zero, List.set_cons_succ]
    rfl
  refine pure_ (i := 9) (N := (some 43)) (v := ?_) (a' := ?_) #[true, true, true, true, true, true, true, true, true, true, false, false, false, false, false] rfl rfl (any_of HT_.out (by kernel_rfl)) (fun _ _ _ h => h) (Or.inl ⟨by rfl, ?_⟩) ?_ ?_
  rotate_left
  · intro w'
    go_simp
    with_reducible rfl
  rotate_left
  · simp only [Act.put, List.setIfInBounds_toArray, List.set_cons_zero, List.set_cons_succ]
    rfl
  refine pure_ (i := 10) (N := (some 44)) (v := ?_) (a' := ?_) #[true, true, true, true, true, true, true, true, true, true, true, false, false, false, false] rfl rfl (any_of HT_.out (by kernel_rfl)) (fun _ _ _ h => h) (Or.inl ⟨by rfl, ?_⟩) ?_ ?_
  rotate_left
  · intro w'
    go_simp
    with_reducible rfl
  rotate_left
  · simp only [Act.put, List.setIfInBounds_toArray, List.set_cons_zero, List.set_cons_succ]
    rfl
  refine pure_ (i := 11) (N := (some 45)) (v := ?_) (a' := ?_) #[true, true, true, true, true, true, true, true, true, true, true, true, false, false, false] rfl rfl (any_of HT_.out (by kernel_rfl)) (fun _ _ _ h => h) (Or.inl ⟨by rfl, ?_⟩) ?_ ?_
  rotate_left
  · intro w'
    go_simp
    with_reducible rfl
  rotate_left
  · simp only [Act.put, List.setIfInBounds_toArray, List.set_cons_zero, List.set_cons_succ]
    rfl
  refine one_ (i := 12) (N := (some 46)) #[true, true, true, true, true, true, true, true, true, true, true, true, true, false, false] rfl rfl (one_of HT_.out (by kernel_rfl)) (by decide) (fun K hK => ?_)
  refine call_ 27 #[.slice (some ⟨g, 0, none⟩) b.length c, .slice A b.length cb] (by rfl) rfl (by go_simp) ?_
  refine (whole_any g b.length c _ b _ HK6.out.m rfl hgc HK6.out.r).mono ?_
  rintro e w' ⟨rfl, rfl⟩
  refine ⟨_, rfl, ?_⟩
  refine hK.out _ _ (hHeld) (fun hHeld => ?_)
  clear hK K
  refine norm_ (a' := ?_) ?_ ?_
  rotate_left
  · show Act.put _ (some 46) _ = _
    simp only [Act.put, List.setIfInBounds_toArray, List.set_cons_zero, List.set_cons_succ]
    rfl
  refine pure_ (i := 13) (N := (some 47)) (v := ?_) (a' := ?_) #[true, true, true, true, true, true, true, true, true, true, true, true, true, true, false] rfl rfl (any_of HT_.out (by kernel_rfl)) (fun _ _ _ h => h) (Or.inl ⟨by rfl, ?_⟩) ?_ ?_
  rotate_left
  · intro w'
    go_simp
    with_reducible rfl
  rotate_left
  · simp only [Act.put, List.setIfInBounds_toArray, List.set_cons_zero, List.set_cons_succ]
    rfl
  refine pure_ (i := 14) (N := (some 48)) (v := ?_) (a' := ?_) #[true, true, true, true, true, true, true, true, true, true, true, true, true, true, true] rfl rfl (any_of HT_.out (by kernel_rfl)) (fun _ _ _ h => h) (Or.inl ⟨by rfl, ?_⟩) ?_ ?_
  rotate_left
  · intro w'
    go_simp
    with_reducible rfl
  rotate_left
  · simp only [Act.put, List.setIfInBounds_toArray, List.set_cons_zero, List.set_cons_succ]
    rfl
  refine done_ (done_of HT_.out (by kernel_rfl)) ?_
  clear HT_ HW_ hHeld HK
  go_wp2_with fail
  refine (decode_any _ b _ (HK6.out.ob.front rfl).reads (Ht.out.below HK6.out.be)).mono ?_
  rw [Hex.out, HX.out]
  rintro e w7 ⟨rfl, hb7⟩
  have hv7 := var_made 66 w7 X
  have HZ7 := Lib.hid (At.new 66 w7 Rec.zero)
  have hq7 := below_then hb7 hv7.2
  have HX7 := Lib.hid hv7.1
  have HK7 := Lib.hid (HK6.out.below hq7)
  clear hv7 hb7 hq7 HK6
  go_upto_region 9 with (first
    | (refine go_value (o := ⟨_, .alloc 66, _, _, _, _⟩) (by rfl) (ex_alloc (run_alloc66 _) rfl) ?_)
    | (refine go_skip (o := ⟨none, .store 66 _ _, _, _, _, _⟩) (by rfl) (ex_store (HZ7.out.store66 zero_n (s := X) hXn) rfl rfl rfl) ?_)
    | fail)
  generalize hg12 : w7.heap.size = g12 at HX7 HK7 ⊢
  generalize (w7.alloc (.cells Rec.zero.cells 66)).setRow g12 X.cells = w8 at HX7 HK7 ⊢
  clear hg12 HZ7
  have hq := neq66 X X hXn hXn w8
  rw [recEq_self] at hq
  have Hq := Lib.hid hq
  clear hq
  by_cases h0 : b.length = 0
  · have h0b : ((b.length : Int) == 0) = true := by rw [h0]; rfl
    have hb0 : b = [] := List.eq_nil_of_length_eq_zero h0
    clear h0
    go_wp2_with (first
      | (refine go_value (o := ⟨some 54, _, _, _, _, _⟩) (by rfl) (ex_load (HX7.out.load66 hXn) rfl rfl) ?_)
      | (refine go_value (o := ⟨some 55, _, _, _, _, _⟩) (by rfl) (ex_load (HK7.out.x.load66 hXn) rfl rfl) ?_)
      | (refine go_value (o := ⟨some 56, _, _, _, _, _⟩) (by rfl) (ex_bin Hq.out rfl rfl rfl (run_eqGuard_agg _ _ _ _ _ _ _ noGuard66)) ?_))
    go_ret
    exact ⟨rfl, HK7.out.be⟩
  · have h0b : ((b.length : Int) == 0) = false := beq_eq_false_iff_ne.2 (by omega)
    have hpos : 0 < b.length := by omega
    clear h0
    go_upto_region 13 with (first
      | (refine go_value (o := ⟨some 54, _, _, _, _, _⟩) (by rfl) (ex_load (HX7.out.load66 hXn) rfl rfl) ?_)
      | (refine go_value (o := ⟨some 55, _, _, _, _, _⟩) (by rfl) (ex_load (HK7.out.x.load66 hXn) rfl rfl) ?_)
      | (refine go_value (o := ⟨some 56, _, _, _, _, _⟩) (by rfl) (ex_bin Hq.out rfl rfl rfl (run_eqGuard_agg _ _ _ _ _ _ _ noGuard66)) ?_)
      | fail)
    obtain ⟨κ, hκ, hk⟩ := place_len at1 b.length hpos (by omega)
    have Hk := Lib.hid hk
    clear hk Hq HX7
    go_upto_region 14 with fail
    rw [Hk.out]
    have hlen3 : (b ++ [77, 78, 79]).length = b.length + 3 := by simp
    have hcl := HK7.out.ob.cell κ (by omega)
    have hfr := HK7.out.ob.free κ
    rw [List.getElem?_append_left hκ] at hcl
    have hcv := hB0.at κ
    have hset := HK7.out.ob.set κ (by omega) (x8 (b[κ]?.getD 0) x) (x8_byte _ _ hcv hx)
    rw [List.set_append_left _ _ hκ] at hset
    have hgb := (HK7.out.ob.blk g rfl).1
    have Hset : Hid (OB (w8.setCell ⟨g, κ, none⟩ (.int .u8 (bits .xor .u8 (b[κ]?.getD 0) x))) w.heap.size (.slice (some ⟨g, 0, none⟩) b.length c) (b.set κ (x8 (b[κ]?.getD 0) x))) := Lib.hid (OB.front hset (by simp))
    have HB9 : Hid (Below w.heap.size w (w8.setCell ⟨g, κ, none⟩ (.int .u8 (bits .xor .u8 (b[κ]?.getD 0) x)))) := Lib.hid (HK7.out.be.setCell hgb _)
    obtain ⟨B, hB⟩ : ∃ B, b.set κ (x8 (b[κ]?.getD 0) x) = B := ⟨_, rfl⟩
    rw [hB] at Hset
    have hBl : B.length = b.length := by rw [← hB]; simp
    clear hset hB
    generalize b[κ]?.getD 0 = y at hcl hcv Hset HB9
    go_upto_region 15 with fail
    generalize w8.setCell ⟨g, κ, none⟩ (.int .u8 (bits .xor .u8 y x)) = w9 at Hset HB9 ⊢
    clear hcl hfr HK7 hlen3
    have Hr9 := Lib.hid (Hset.out.reads.below (below_alloc (Below.refl _ _) (.cells #[] 5)))
    have hl9 : ([] : List Int).length + B.length ≤ 140737488355328 := by simp; omega
    go_upto_region 16 with (first
      | (at_builtin; refine wpList_app rfl (.tmp 84) (.tmp 85) 25 rfl Tryd.underlying25 oinfo5 w9.heap.size (.slice (some ⟨w9.heap.size, 0, none⟩) 0 0) _ [] B rfl rfl (own_empty w9) Hr9.out hl9 (by simp) ?_; intro v15 wA hoA hgA _; rw [List.nil_append] at hoA; have hqA := below_grown (below_alloc (Below.refl w9.heap.size w9) (.cells #[] 5)) (own_empty w9) (Nat.le_refl _) hgA; have HoA := Lib.hid hoA; have HBA := Lib.hid (below_then HB9.out hqA); have HmA := Lib.hid (Hset.out.below hqA); clear hoA hgA hqA)
      | fail)
    obtain ⟨A15, c15, rfl, -⟩ := HoA.out.reads.form
    have hYn := decV_n B
    have hYo := decV_ok B HmA.out.2
    obtain ⟨ey, hey⟩ : ∃ ey, decE B = ey := ⟨_, rfl⟩
    obtain ⟨Y, hY⟩ : ∃ Y, decV B = Y := ⟨_, rfl⟩
    rw [hY] at hYn hYo
    have Hey := Lib.hid hey
    have HYe := Lib.hid hY
    rw [hBl] at HoA ⊢
    clear hey hY Hr9 HB9 Hset
    go_wp2_with fail
    refine (decode_any _ B _ HmA.out.reads (Ht.out.below HBA.out)).mono ?_
    rw [Hey.out, HYe.out]
    rintro e wD ⟨rfl, hbD⟩
    have hvD := var_made 66 wD Y
    have HZD := Lib.hid (At.new 66 wD Rec.zero)
    have hqD := below_then hbD hvD.2
    have HXD := Lib.hid hvD.1
    have HBD := Lib.hid (below_then HBA.out hqD)
    have HmD := Lib.hid (HmA.out.reads.below hqD)
    have HoD := Lib.hid (HoA.out.reads.below hqD)
    clear hvD hbD hqD HBA HmA HoA
    go_upto_region 17 with (first
      | (refine go_value (o := ⟨_, .alloc 66, _, _, _, _⟩) (by rfl) (ex_alloc (run_alloc66 _) rfl) ?_)
      | (refine go_skip (o := ⟨none, .store 66 _ _, _, _, _, _⟩) (by rfl) (ex_store (HZD.out.store66 zero_n (s := Y) hYn) rfl rfl rfl) ?_)
      | fail)
    generalize hg16 : wD.heap.size = g16 at HXD HBD HmD HoD ⊢
    generalize (wD.alloc (.cells Rec.zero.cells 66)).setRow g16 Y.cells = wE at HXD HBD HmD HoD ⊢
    clear hg16 HZD
    go_wp2_with fail
    refine (rdecode_any _ B _ HoD.out).mono ?_
    rw [Hey.out, HYe.out]
    rintro e wF ⟨rfl, hbF⟩
    have hvF := var_made 71 wF Y
    have HZF := Lib.hid (At.new 71 wF Rec.zero)
    have hqF := below_then hbF hvF.2
    have HPF := Lib.hid hvF.1
    have HXF := Lib.hid (HXD.out.below hqF)
    have HBF := Lib.hid (below_then HBD.out hqF)
    have HmF := Lib.hid (HmD.out.below hqF)
    have HoF := Lib.hid (HoD.out.below hqF)
    clear hvF hbF hqF HXD HBD HmD HoD
    go_upto_region 18 with (first
      | (refine go_value (o := ⟨_, .alloc 71, _, _, _, _⟩) (by rfl) (ex_alloc (run_alloc71 _) rfl) ?_)
      | (refine go_skip (o := ⟨none, .store 71 _ _, _, _, _, _⟩) (by rfl) (ex_store (HZF.out.store71 zero_n (s := Y) hYn) rfl rfl rfl) ?_)
      | fail)
    generalize hg18 : wF.heap.size = g18 at HXF HPF HBF HmF HoF ⊢
    generalize (wF.alloc (.cells Rec.zero.cells 71)).setRow g18 Y.cells = wB at HXF HPF HBF HmF HoF ⊢
    clear hg18 HZF
    have hS8 : S18 g16 g18 Y (.slice (some ⟨g, 0, none⟩) b.length c) (.slice A15 b.length c15) B wB.drew := (S18.mk HXF.out HPF.out HmF.out HoF.out).below (below_drew (Below.refl _ _))
    have HYb := Lib.hid (below_drew HBF.out)
    clear HXF HPF HBF HmF HoF
    refine start_ (n := 17) (S := S18 g16 g18 Y (.slice (some ⟨g, 0, none⟩) b.length c) (.slice A15 b.length c15) B) (ds := []) #[false, false, false, false, false, false, false, false, false, false, false, false, false, false, false, false, false] (by kernel_rfl) rfl rfl (hS8) (fun hHeld => ?_); refine with_tabW tab13_18 bits13_18 (fun HT_ HW_ => ?_)
    clear hS8
    generalize wB.drew = wBd at HYb hHeld ⊢
    refine pure_ (i := 0) (N := (some 97)) (v := ?_) (a' := ?_) #[true, false, false, false, false, false, false, false, false, false, false, false, false, false, false, false, false] rfl rfl (any_of HT_.out (by kernel_rfl)) (fun _ _ _ h => h) (Or.inl ⟨by rfl, ?_⟩) ?_ ?_
    rotate_left
    · intro w'
      go_simp
      with_reducible rfl
    rotate_left
    · simp only [Act.put, List.setIfInBounds_toArray, List.set_cons_zero, List.set_cons_succ]
      rfl
    refine pure_ (i := 1) (N := (some 98)) (v := ?_) (a' := ?_) #[true, true, false, false, false, false, false, false, false, false, false, false, false, false, false, false, false] rfl rfl (any_of HT_.out (by kernel_rfl)) (fun _ _ _ h => h) (Or.inl ⟨by rfl, ?_⟩) ?_ ?_
    rotate_left
    · intro w'
      go_simp
      with_reducible rfl
    rotate_left
    · simp only [Act.put, List.setIfInBounds_toArray, List.set_cons_zero, List.set_cons_succ]
      rfl
    refine pure_ (i := 2) (N := (some 99)) (v := ?_) (a' := ?_) #[true, true, true, false, false, false, false, false, false, false, false, false, false, false, false, false, false] rfl rfl (any_of HT_.out (by kernel_rfl)) (fun _ _ _ h => h) (Or.inl ⟨by rfl, ?_⟩) ?_ ?_
    rotate_left
    · intro w'
      go_simp
      with_reducible rfl
    rotate_left
    · simp only [Act.put, List.setIfInBounds_toArray, List.set_cons_zero, List.set_cons_succ]
      rfl
    refine pure_ (i := 3) (N := (some 100)) (v := ?_) (a' := ?_) #[true, true, true, true, false, false, false, false, false, false, false, false, false, false, false, false, false] rfl rfl (any_of HT_.out (by kernel_rfl)) (fun _ _ _ h => h) (Or.inl ⟨by rfl, ?_⟩) ?_ ?_
    rotate_left
    · intro w'
      go_simp
      with_reducible rfl
    rotate_left
    · simp only [Act.put, List.setIfInBounds_toArray, List.set_cons_zero, List.set_cons_succ]
      rfl
    refine take_ (i := 4) (N := (some 101)) (v := .agg Y.cells) #[true, true, true, true, true, false, false, false, false, false, false, false, false, false, false, false, false] rfl rfl (take_of HT_.out (by kernel_rfl)) (fun _ _ _ h => h) (Or.inl ⟨by rfl, fun w' hw' => ex_load (hw'.x.load66 hYn) rfl rfl⟩) hHeld rfl ?_
    refine norm_ (a' := ?_) ?_ ?_
    rotate_left
    · show Act.put _ (some 101) _ = _
      simp only [Act.put, List.setIfInBounds_toArray, List.set_cons_zero, List.set_cons_succ]
      rfl
    refine take_ (i := 6) (N := (some 103)) (v := .agg Y.cells) #[true, true, true, true, true, false, true, false, false, false, false, false, false, false, false, false, false] rfl rfl (take_of HT_.out (by kernel_rfl)) (fun _ _ _ h => h) (Or.inl ⟨by rfl, fun w' hw' => ex_load (hw'.p.load71 hYn) rfl rfl⟩) hHeld rfl ?_
    refine norm_ (a' := ?_) ?_ ?_
    rotate_left
    · show Act.put _ (some 103) _ = _
      simp only [Act.put, List.setIfInBounds_toArray, List.set_cons_zero, List.set_cons_succ]
      rfl
    refine one_ (i := 5) (N := (some 102)) #[true, true, true, true, true, true, true, false, false, false, false, false, false, false, false, false, false] rfl rfl (one_of HT_.out (by kernel_rfl)) (by decide) (fun K hK => ?_)
    refine call_ 45 #[.agg Y.cells] (by rfl) rfl (by go_simp) ?_
    refine (plain_rec Y _ hYo).mono ?_
    rintro e wC ⟨rfl, hb⟩
    have HYc := Lib.hid (below_then HYb.out hb)
    refine ⟨_, rfl, ?_⟩
    refine hK.out _ _ (hHeld.below hb) (fun hHeld => ?_)
    clear hK K
    refine norm_ (a' := ?_) ?_ ?_
    rotate_left
    · show Act.put _ (some 102) _ = _
      simp only [Act.put, List.setIfInBounds_toArray, List.set_cons_zero, List.set_cons_succ]
      rfl
    refine pure_ (i := 7) (N := (some 104)) (v := .bool true) #[true, true, true, true, true, true, true, true, false, false, false, false, false, false, false, false, false] rfl rfl (any_of HT_.out (by kernel_rfl)) (fun _ _ _ h => h) (Or.inl ⟨by rfl, fun w' => ex_bin (by have h9 := eql71 Y Y hYn hYn w'; rw [recEq_self] at h9; exact h9) rfl rfl rfl (run_eqGuard_agg _ _ _ _ _ _ _ noGuard71)⟩) rfl ?_
    refine norm_ (a' := ?_) ?_ ?_
    rotate_left
    · show Act.put _ (some 104) _ = _
      simp only [Act.put, List.setIfInBounds_toArray, List.set_cons_zero, List.set_cons_succ]
      rfl
    refine pure_ (i := 8) (N := (some 105)) (v := ?_) (a' := ?_) #[true, true, true, true, true, true, true, true, true, false, false, false, false, false, false, false, false] rfl rfl (any_of HT_.out (by kernel_rfl)) (fun _ _ _ h => h) (Or.inl ⟨by rfl, ?_⟩) ?_ ?_
    rotate_left
    · intro w'
      go_simp
      with_reducible rfl
    rotate_left
    · simp only [Act.put, List.setIfInBounds_toArray, List.set_cons_zero, List.set_cons_succ]
      rfl
    refine pure_ (i := 9) (N := (some 106)) (v := ?_) (a' := ?_) #[true, true, true, true, true, true, true, true, true, true, false, false, false, false, false, false, false] rfl rfl (any_of HT_.out (by kernel_rfl)) (fun _ _ _ h => h) (Or.inl ⟨by rfl, ?_⟩) ?_ ?_
    rotate_left
    · intro w'
      go_simp
      with_reducible rfl
    rotate_left
    · simp only [Act.put, List.setIfInBounds_toArray, List.set_cons_zero, List.set_cons_succ]
      rfl
    refine pure_ (i := 10) (N := (some 107)) (v := ?_) (a' := ?_) #[true, true, true, true, true, true, true, true, true, true, true, false, false, false, false, false, false] rfl rfl (any_of HT_.out (by kernel_rfl)) (fun _ _ _ h => h) (Or.inl ⟨by rfl, ?_⟩) ?_ ?_
    rotate_left
    · intro w'
      go_simp
      with_reducible rfl
    rotate_left
    · simp only [Act.put, List.setIfInBounds_toArray, List.set_cons_zero, List.set_cons_succ]
      rfl
    refine take_ (i := 11) (N := (some 108)) (v := ?_) (a' := ?_) #[true, true, true, true, true, true, true, true, true, true, true, true, false, false, false, false, false] rfl rfl (take_of HT_.out (by kernel_rfl)) (fun _ _ _ h => h) (Or.inl ⟨by rfl, ?_⟩) hHeld ?_ ?_
    rotate_left
    · intro w' hw'
      have k9 := conv_str hw'.m
      go_simp
      with_reducible rfl
    rotate_left
    · simp only [Act.put, List.setIfInBounds_toArray, List.set_cons_zero, List.set_cons_succ]
      rfl
    refine pure_ (i := 12) (N := (some 109)) (v := ?_) (a' := ?_) #[true, true, true, true, true, true, true, true, true, true, true, true, true, false, false, false, false] rfl rfl (any_of HT_.out (by kernel_rfl)) (fun _ _ _ h => h) (Or.inl ⟨by rfl, ?_⟩) ?_ ?_
    rotate_left
    · intro w'
      go_simp
      with_reducible rfl
    rotate_left
    · simp only [Act.put, List.setIfInBounds_toArray, List.set_cons_zero, List.set_cons_succ]
      rfl
    refine take_ (i := 13) (N := (some 110)) (v := ?_) (a' := ?_) #[true, true, true, true, true, true, true, true, true, true, true, true, true, true, false, false, false] rfl rfl (take_of HT_.out (by kernel_rfl)) (fun _ _ _ h => h) (Or.inl ⟨by rfl, ?_⟩) hHeld ?_ ?_
    rotate_left
    · intro w' hw'
      have k9 := conv_str hw'.o
      go_simp
      with_reducible rfl
    rotate_left
    · simp only [Act.put, List.setIfInBounds_toArray, List.set_cons_zero, List.set_cons_succ]
      rfl
    refine pure_ (i := 14) (N := (some 111)) (v := ?_) (a' := ?_) #[true, true, true, true, true, true, true, true, true, true, true, true, true, true, true, false, false] rfl rfl (any_of HT_.out (by kernel_rfl)) (fun _ _ _ h => h) (Or.inl ⟨by rfl, ?_⟩) ?_ ?_
    rotate_left
    · intro w'
      go_simp
      with_reducible rfl
    rotate_left
    · simp only [Act.put, List.setIfInBounds_toArray, List.set_cons_zero, List.set_cons_succ]
      rfl
    refine pure_ (i := 15) (N := (some 112)) (v := ?_) (a' := ?_) #[true, true, true, true, true, true, true, true, true, true, true, true, true, true, true, true, false] rfl rfl (any_of HT_.out (by kernel_rfl)) (fun _ _ _ h => h) (Or.inl ⟨by rfl, ?_⟩) ?_ ?_
    rotate_left
    · intro w'
      go_simp
      with_reducible rfl
    rotate_left
    · simp only [Act.put, List.setIfInBounds_toArray, List.set_cons_zero, List.set_cons_succ]
      rfl
    refine pure_ (i := 16) (N := (some 6)) (v := ?_) (a' := ?_) #[true, true, true, true, true, true, true, true, true, true, true, true, true, true, true, true, true] rfl rfl (any_of HT_.out (by kernel_rfl)) (fun _ _ _ h => h) (Or.inl ⟨by rfl, ?_⟩) ?_ ?_
    rotate_left
    · intro w'
      go_simp
      with_reducible rfl
    rotate_left
    · simp only [Act.put, List.setIfInBounds_toArray, List.set_cons_zero, List.set_cons_succ]
      rfl
    refine done_ (done_of HT_.out (by kernel_rfl)) ?_
    go_wp2_with fail
    go_ret
    exact ⟨by simp, HYc.out⟩
end Go.Proofs.YtblfmofhfbbmdaaDoor
