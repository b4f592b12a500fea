/- The walk of the law RecordEncodes: it returns true, and nothing that was there has turned. -/
import Derived.Test.YtblfmofhfbbmdaaDoorRecC
import Derived.Test.YtblfmofhfbbmdaaDoorApart
import Derived.Test.YtblfmofhfbbmdaaDoorBox
set_option linter.unusedVariables false
set_option linter.unusedSimpArgs false
namespace Go.Proofs.YtblfmofhfbbmdaaDoor
open Go.RowKit Crc Go.Proofs.YtblfmofhfbbmdaaDoorW.PrintWords Go.Proofs.YtblfmofhfbbmdaaDoorW.PrintLast

def rC : Rec := ⟨2, 0, 0, zero32, 0⟩
theorem rC_ok : rC.ok := ⟨by decide, by decide, by decide, Rec.zero_ok.v, rfl, by decide⟩
theorem rC_k : okRec rC = true := by decide
theorem b66_rC : Tryd.prog.built 66 [(0, .int .i64 2)] = some rC.cells := by kernel_rfl
/-- What the tests read. -/
structure S12 (gx gp : Nat) (r : Rec) (u4 u6 u10 : Value) (L : List Int) (w : World) : Prop where
  x : At 66 w gx r
  p : At 71 w gp r
  a : RBy w u4 L
  b : RBy w u6 L
  c : RBy w u10 L
theorem S12.below {gx gp : Nat} {r : Rec} {u4 u6 u10 : Value} {L : List Int} {w w' : World} (h : S12 gx gp r u4 u6 u10 L w) (hb : Below w.heap.size w w') : S12 gx gp r u4 u6 u10 L w' :=
  ⟨h.x.below hb, h.p.below hb, h.a.below hb, h.b.below hb, h.c.below hb⟩
/-- What Apart is handed. -/
structure K12 (w0 : World) (b : Nat) (u4 u6 u8 : Value) (L L8 : List Int) (w : World) : Prop where
  be : Below w0.heap.size w0 w
  o4 : OB w b u4 L
  o6 : OB w b u6 L
  o8 : OB w b u8 L8
theorem K12.below {w0 : World} {b : Nat} {u4 u6 u8 : Value} {L L8 : List Int} {w w' : World} (h : K12 w0 b u4 u6 u8 L L8 w) (hb : Below w.heap.size w w') : K12 w0 b u4 u6 u8 L L8 w' :=
  ⟨below_then h.be hb, h.o4.below hb, h.o6.below hb, h.o8.below hb⟩
def T12_8 : Bool × List (List Nat × List Nat) := (true, [([], []), ([], []), ([0, 1], [0, 1]), ([2], [2]), ([3], [3]), ([3], [3]), ([4, 5, 3], [3, 4, 5]), ([3, 6], [3, 6]), ([7, 3], [7]), ([8], [8]), ([9, 8, 8], [8, 9]), ([8], [8]), ([11, 10, 8], [8, 11]), ([10, 12, 8], [8, 10, 12]), ([8, 13], [8, 13]), ([14, 12], [14]), ([15], [15]), ([16, 15], [15, 16]), ([15], [15]), ([18, 15], [15, 18]), ([17, 19, 15], [15, 17, 19]), ([15, 20], [15, 20]), ([21, 15], [21]), ([22], [22]), ([23, 22], [22, 23]), ([22], [22]), ([25, 22], [22, 25]), ([24, 26, 22], [22, 24, 26]), ([22, 27], [22, 27]), ([28, 22], [28]), ([29], [29]), ([30, 29], [29, 30]), ([31, 29], [29, 31]), ([29, 32], [29, 32])])
def B12_8 : List Nat := [0, 0, 3, 7, 15, 15, 63, 127, 255, 511, 1023, 511, 4095, 8191, 16383, 32767, 65535, 131071, 65535, 327679, 1048575, 2097151, 4194303, 8388607, 16777215, 8388607, 41943039, 134217727, 268435455, 536870911, 1073741823, 2147483647, 4294967295, 8589934591]
theorem tab12_8 : rtab .any (opsOf Tryd.f12 8) = T12_8 := by kernel_rfl
theorem bits12_8 : waitsOk T12_8.2 B12_8 = true := by kernel_rfl
set_option maxRecDepth 100000 in
set_option maxHeartbeats 8000000 in
theorem recordEncodes_rec (r : Rec) (w : World) (hr : r.ok) (ht : Tab w) :
    Calls Tryd.prog 12 #[.agg r.cells] w fun e w' => e = .returned (.bool true) ∧ Below w.heap.size w w' := by
  have Ht := Lib.hid ht
  have HP := Lib.hid (At.new 71 w r)
  have hb0 := Lib.hid (below_alloc (Below.refl w.heap.size w) (.cells r.cells 71))
  clear ht
  go_enter Tryd.func12, Tryd.ntmps12
  go_wp2_with fail
  refine (fixed6_any _ (Ht.out.below hb0.out)).mono ?_
  rintro e w1 ⟨rfl, hb1⟩
  have HP1 := Lib.hid (HP.out.below hb1)
  have Hb1 := Lib.hid (below_then hb0.out hb1)
  clear hb1 hb0 HP
  go_wp2_with (first
    | (refine go_value (o := ⟨some 14, _, _, _, _, _⟩) (by rfl) (ex_load (HP1.out.load71 hr.n) rfl rfl) ?_)
    | fail)
  refine (own_rec r _ hr).mono ?_
  rintro e w2 ⟨rfl, hb2⟩
  have hv2 := var_made 66 w2 r
  have HZ2 := Lib.hid (At.new 66 w2 Rec.zero)
  have HX := Lib.hid hv2.1
  have hq3 := below_then hb2 hv2.2
  have HP3 := Lib.hid (HP1.out.below hq3)
  have Hb3 := Lib.hid (below_then Hb1.out hq3)
  clear hv2 hb2 hq3 Hb1 HP1
  go_upto_region 4 with (first
    | (refine go_value (o := ⟨_, .alloc 66, _, _, _, _⟩) (by rfl) (ex_alloc (run_alloc66 _) rfl) ?_)
    | (refine go_skip (o := ⟨none, .store 66 _ _, _, _, _, _⟩) (by rfl) (ex_store (HZ2.out.store66 zero_n (s := r) hr.n) rfl rfl rfl) ?_)
    | fail)
  generalize hgx : w2.heap.size = gx at HX HP3 Hb3 ⊢
  generalize (w2.alloc (.cells Rec.zero.cells 66)).setRow gx r.cells = w3 at HX HP3 Hb3 ⊢
  clear hgx HZ2
  generalize hL : encV r = L
  have HL := Lib.hid hL
  have hLl : L.length ≤ 64 := by
    rw [← hL, encV]
    split
    · rw [encL_length hr.n]; omega
    · simp
  clear hL
  go_wp2_with (first
    | (refine go_value (o := ⟨some 17, _, _, _, _, _⟩) (by rfl) (ex_load (HX.out.load66 hr.n) rfl rfl) ?_)
    | fail)
  refine (enc_any r _ hr (Ht.out.below Hb3.out)).mono ?_
  rw [HL.out]
  obtain ⟨ce, hE⟩ : ∃ ce, chkE r = ce := ⟨_, rfl⟩
  rw [hE]
  rintro e w4 ⟨v4, rfl, ho4, hb4⟩
  obtain ⟨A4, c4, rfl, -⟩ := ho4.reads.form
  have HX4 := Lib.hid (HX.out.below hb4)
  have HP4 := Lib.hid (HP3.out.below hb4)
  have Hb4 := Lib.hid (below_then Hb3.out hb4)
  have Ho4 := Lib.hid ho4
  have hs4 := hb4.size
  clear hb4 ho4 HX HP3
  have HhE := Lib.hid hE
  clear hE
  go_wp2_with (first
    | (refine go_value (o := ⟨some 22, _, _, _, _, _⟩) (by rfl) (ex_load (HX4.out.load66 hr.n) rfl rfl) ?_)
    | fail)
  refine (enc_any r _ hr (Ht.out.below Hb4.out)).mono ?_
  rw [HL.out, HhE.out]
  rintro e w5 ⟨v6, rfl, ho6, hb5⟩
  obtain ⟨A6, c6, rfl, -⟩ := ho6.reads.form
  have HX5 := Lib.hid (HX4.out.below hb5)
  have HP5 := Lib.hid (HP4.out.below hb5)
  have Hb5 := Lib.hid (below_then Hb4.out hb5)
  have Ho45 := Lib.hid (Ho4.out.below hb5)
  have Ho6 := Lib.hid ho6
  have hs5 := hb5.size
  clear hb5 ho6 HX4 HP4
  go_wp2_with (first
    | (refine go_value (o := ⟨some 27, _, _, _, _, _⟩) (by rfl) (ex_build b66_rC rfl rfl) ?_)
    | fail)
  refine (enc_any rC _ rC_ok (Ht.out.below Hb5.out)).mono ?_
  rw [show encV rC = encL rC by rw [encV, if_pos rC_k], show chkE rC = 0 by rw [chkE, if_pos rC_k]]
  rintro e w6 ⟨v8, rfl, ho8, hb6⟩
  obtain ⟨A8, c8, rfl, -⟩ := ho8.reads.form
  have HL8 : Hid ((encL rC).length = 64) := Lib.hid (encL_length rfl)
  generalize encL rC = L8 at ho8 HL8 ⊢
  rw [HL8.out] at ho8 ⊢
  have HX6 := Lib.hid (HX5.out.below hb6)
  have HP6 := Lib.hid (HP5.out.below hb6)
  have Hb6 := Lib.hid (below_then Hb5.out hb6)
  have Ho46 := Lib.hid (Ho45.out.below hb6)
  have Ho66 := Lib.hid (Ho6.out.below hb6)
  have Ho8 := Lib.hid ho8
  have hs6 := hb6.size
  clear hb6 ho8 HX5 HP5 Ho45
  go_wp2_with (first
    | (refine go_value (o := ⟨some 32, _, _, _, _, _⟩) (by rfl) (ex_load (HP6.out.load71 hr.n) rfl rfl) ?_)
    | fail)
  refine (renc_any r _ hr).mono ?_
  rw [HL.out, HhE.out]
  rintro e w7 ⟨v10, rfl, ho10, hb7⟩
  obtain ⟨A10, c10, rfl, -⟩ := ho10.reads.form
  have hs3 := Hb3.out.size
  have hS0 : S12 gx w.heap.size r (.slice A4 L.length c4) (.slice A6 L.length c6) (.slice A10 L.length c10) L w7.drew :=
    (S12.mk (HX6.out.below hb7) (HP6.out.below hb7) (Ho46.out.reads.below hb7) (Ho66.out.reads.below hb7) ho10.reads).below (below_drew (Below.refl _ _))
  have Hk : Hid (K12 w w.heap.size (.slice A4 L.length c4) (.slice A6 L.length c6) (.slice A8 64 c8) L L8 w7.drew) :=
    (K12.mk (below_then Hb6.out hb7) ((Ho46.out.below hb7).lower (by omega)) ((Ho66.out.below hb7).lower (by omega)) ((Ho8.out.below hb7).lower (by omega))).below (below_drew (Below.refl _ _))
  have Hlie := Lib.hid (And.intro Ho4.out.lies (And.intro Ho6.out.lies Ho8.out.lies))
  have Hs : Hid (w.heap.size ≤ w7.drew.heap.size) := Hk.out.be.size
  clear ho10 hb7 HX6 HP6 Ho46 Ho66 Ho8 Ho4 Ho6
  have hE := HhE.out
  go_upto_region 8 with fail
  refine start_ (n := 34) (S := S12 gx w.heap.size r (.slice A4 L.length c4) (.slice A6 L.length c6) (.slice A10 L.length c10) L) (ds := []) #[false, false, false, false, false, false, false, false, false, false, false, false, false, false, false, false, false, false, false, false, false, false, false, false, false, false, false, false, false, false, false, false, false, false] (by kernel_rfl) rfl rfl (hS0) (fun hHeld => ?_); refine with_tabW tab12_8 bits12_8 (fun HT_ HW_ => ?_)
  clear hS0
  generalize w7.drew = w7d at Hk Hs hHeld ⊢
  refine pure_ (i := 0) (N := (some 36)) (v := ?_) (a' := ?_) #[true, false, false, false, false, false, false, false, false, false, false, false, false, false, false, false, false, false, false, false, false, false, false, false, false, false, false, false, false, false, false, false, false, false] rfl rfl (any_of HT_.out (by kernel_rfl)) (fun _ _ _ h => h) (Or.inl ⟨by rfl, ?_⟩) ?_ ?_
  rotate_left
  · intro w'
    go_simp
    with_reducible rfl
  rotate_left
  · simp only [Act.put, List.setIfInBounds_toArray, List.set_cons_zero, List.set_cons_succ]
    rfl
  refine pure_ (i := 1) (N := (some 37)) (v := ?_) (a' := ?_) #[true, true, false, false, false, false, false, false, false, false, false, false, false, false, false, false, false, false, false, false, false, false, false, false, false, false, false, false, false, false, false, false, false, false] rfl rfl (any_of HT_.out (by kernel_rfl)) (fun _ _ _ h => h) (Or.inl ⟨by rfl, ?_⟩) ?_ ?_
  rotate_left
  · intro w'
    go_simp
    with_reducible rfl
  rotate_left
  · simp only [Act.put, List.setIfInBounds_toArray, List.set_cons_zero, List.set_cons_succ]
    rfl
  refine pure_ (i := 2) (N := (some 38)) (v := ?_) (a' := ?_) #[true, true, true, false, false, false, false, false, false, false, false, false, false, false, false, false, false, false, false, false, false, false, false, false, false, false, false, false, false, false, false, false, false, false] rfl rfl (any_of HT_.out (by kernel_rfl)) (fun _ _ _ h => h) (Or.inl ⟨by rfl, ?_⟩) ?_ ?_
  rotate_left
  · intro w'
    go_simp
    with_reducible rfl
  rotate_left
  · simp only [Act.put, List.setIfInBounds_toArray, List.set_cons_zero, List.set_cons_succ]
    rfl
  refine pure_ (i := 3) (N := (some 39)) (v := ?_) (a' := ?_) #[true, true, true, true, false, false, false, false, false, false, false, false, false, false, false, false, false, false, false, false, false, false, false, false, false, false, false, false, false, false, false, false, false, false] rfl rfl (any_of HT_.out (by kernel_rfl)) (fun _ _ _ h => h) (Or.inl ⟨by rfl, ?_⟩) ?_ ?_
  rotate_left
  · intro w'
    go_simp
    with_reducible rfl
  rotate_left
  · simp only [Act.put, List.setIfInBounds_toArray, List.set_cons_zero, List.set_cons_succ]
    rfl
  refine pure_ (i := 4) (N := (some 40)) (v := ?_) (a' := ?_) #[true, true, true, true, true, false, false, false, false, false, false, false, false, false, false, false, false, false, false, false, false, false, false, false, false, false, false, false, false, false, false, false, false, false] rfl rfl (any_of HT_.out (by kernel_rfl)) (fun _ _ _ h => h) (Or.inl ⟨by rfl, ?_⟩) ?_ ?_
  rotate_left
  · intro w'
    go_simp
    with_reducible rfl
  rotate_left
  · simp only [Act.put, List.setIfInBounds_toArray, List.set_cons_zero, List.set_cons_succ]
    rfl
  refine pure_ (i := 5) (N := (some 41)) (v := ?_) (a' := ?_) #[true, true, true, true, true, true, false, false, false, false, false, false, false, false, false, false, false, false, false, false, false, false, false, false, false, false, false, false, false, false, false, false, false, false] rfl rfl (any_of HT_.out (by kernel_rfl)) (fun _ _ _ h => h) (Or.inl ⟨by rfl, ?_⟩) ?_ ?_
  rotate_left
  · intro w'
    go_simp
    with_reducible rfl
  rotate_left
  · simp only [Act.put, List.setIfInBounds_toArray, List.set_cons_zero, List.set_cons_succ]
    rfl
  refine pure_ (i := 6) (N := (some 42)) (v := ?_) (a' := ?_) #[true, true, true, true, true, true, true, false, false, false, false, false, false, false, false, false, false, false, false, false, false, false, false, false, false, false, false, false, false, false, false, false, false, false] rfl rfl (any_of HT_.out (by kernel_rfl)) (fun _ _ _ h => h) (Or.inl ⟨by rfl, ?_⟩) ?_ ?_
  rotate_left
  · intro w'
    go_simp
    with_reducible rfl
  rotate_left
  · simp only [Act.put, List.setIfInBounds_toArray, List.set_cons_zero, List.set_cons_succ]
    rfl
  refine pure_ (i := 7) (N := (some 43)) (v := ?_) (a' := ?_) #[true, true, true, true, true, true, true, true, false, false, false, false, false, false, false, false, false, false, false, false, false, false, false, false, false, false, false, false, false, false, false, false, false, false] rfl rfl (any_of HT_.out (by kernel_rfl)) (fun _ _ _ h => h) (Or.inl ⟨by rfl, ?_⟩) ?_ ?_
  rotate_left
  · intro w'
    go_simp
    with_reducible rfl
  rotate_left
  · simp only [Act.put, List.setIfInBounds_toArray, List.set_cons_zero, List.set_cons_succ]
    rfl
  refine pure_ (i := 8) (N := (some 44)) (v := ?_) (a' := ?_) #[true, true, true, true, true, true, true, true, true, false, false, false, false, false, false, false, false, false, false, false, false, false, false, false, false, false, false, false, false, false, false, false, false, false] rfl rfl (any_of HT_.out (by kernel_rfl)) (fun _ _ _ h => h) (Or.inl ⟨by rfl, ?_⟩) ?_ ?_
  rotate_left
  · intro w'
    go_simp
    with_reducible rfl
  rotate_left
  · simp only [Act.put, List.setIfInBounds_toArray, List.set_cons_zero, List.set_cons_succ]
    rfl
  refine take_ (i := 9) (N := (some 45)) (v := .agg r.cells) #[true, true, true, true, true, true, true, true, true, true, false, false, false, false, false, false, false, false, false, false, false, false, false, false, false, false, false, false, false, false, false, false, false, false] rfl rfl (take_of HT_.out (by kernel_rfl)) (fun _ _ _ h => h) (Or.inl ⟨by rfl, fun w' hw' => ex_load (hw'.x.load66 hr.n) rfl rfl⟩) hHeld rfl ?_
  refine norm_ (a' := ?_) ?_ ?_
  rotate_left
  · show Act.put _ (some 45) _ = _
    simp only [Act.put, List.setIfInBounds_toArray, List.set_cons_zero, List.set_cons_succ]
    rfl
  refine take_ (i := 11) (N := (some 47)) (v := .agg r.cells) #[true, true, true, true, true, true, true, true, true, true, false, true, false, false, false, false, false, false, false, false, false, false, false, false, false, false, false, false, false, false, false, false, false, false] rfl rfl (take_of HT_.out (by kernel_rfl)) (fun _ _ _ h => h) (Or.inl ⟨by rfl, fun w' hw' => ex_load (hw'.p.load71 hr.n) rfl rfl⟩) hHeld rfl ?_
  refine norm_ (a' := ?_) ?_ ?_
  rotate_left
  · show Act.put _ (some 47) _ = _
    simp only [Act.put, List.setIfInBounds_toArray, List.set_cons_zero, List.set_cons_succ]
    rfl
  refine one_ (i := 10) (N := (some 46)) #[true, true, true, true, true, true, true, true, true, true, true, true, false, false, false, false, false, false, false, false, false, false, false, false, false, false, false, false, false, false, false, false, false, false] rfl rfl (one_of HT_.out (by kernel_rfl)) (by decide) (fun K hK => ?_)
  refine call_ 38 #[.agg r.cells] (by rfl) rfl (by go_simp) ?_
  refine (chk_any r _ hr).mono ?_
  rw [hE]
  rintro e w8 ⟨rfl, hb8⟩
  have Hk8 := Lib.hid (Hk.out.below hb8)
  refine ⟨_, rfl, ?_⟩
  refine hK.out _ _ (hHeld.below hb8) (fun hHeld => ?_)
  clear hK K
  refine norm_ (a' := ?_) ?_ ?_
  rotate_left
  · show Act.put _ (some 46) _ = _
    simp only [Act.put, List.setIfInBounds_toArray, List.set_cons_zero, List.set_cons_succ]
    rfl
  refine one_ (i := 12) (N := (some 48)) #[true, true, true, true, true, true, true, true, true, true, true, true, true, false, false, false, false, false, false, false, false, false, false, false, false, false, false, false, false, false, false, false, false, false] rfl rfl (one_of HT_.out (by kernel_rfl)) (by decide) (fun K hK => ?_)
  refine call_ 42 #[.agg r.cells] (by rfl) rfl (by go_simp) ?_
  refine (rchk_any r _ hr).mono ?_
  rw [hE]
  rintro e w9 ⟨rfl, hb9⟩
  have Hk9 := Lib.hid (Hk8.out.below hb9)
  refine ⟨_, rfl, ?_⟩
  refine hK.out _ _ (hHeld.below hb9) (fun hHeld => ?_)
  clear hK K
  refine norm_ (a' := ?_) ?_ ?_
  rotate_left
  · show Act.put _ (some 48) _ = _
    simp only [Act.put, List.setIfInBounds_toArray, List.set_cons_zero, List.set_cons_succ]
    rfl
  refine pure_ (i := 13) (N := (some 49)) (v := ?_) (a' := ?_) #[true, true, true, true, true, true, true, true, true, true, true, true, true, true, false, false, false, false, false, false, false, false, false, false, false, false, false, false, false, false, false, false, false, false] rfl rfl (any_of HT_.out (by kernel_rfl)) (fun _ _ _ h => h) (Or.inl ⟨by rfl, ?_⟩) ?_ ?_
  rotate_left
  · intro w'
    go_simp
    with_reducible rfl
  rotate_left
  · simp only [Act.put, List.setIfInBounds_toArray, List.set_cons_zero, List.set_cons_succ]
    rfl
  refine pure_ (i := 14) (N := (some 50)) (v := ?_) (a' := ?_) #[true, true, true, true, true, true, true, true, true, true, true, true, true, true, true, false, false, false, false, false, false, false, false, false, false, false, false, false, false, false, false, false, false, false] rfl rfl (any_of HT_.out (by kernel_rfl)) (fun _ _ _ h => h) (Or.inl ⟨by rfl, ?_⟩) ?_ ?_
  rotate_left
  · intro w'
    go_simp
    with_reducible rfl
  rotate_left
  · simp only [Act.put, List.setIfInBounds_toArray, List.set_cons_zero, List.set_cons_succ]
    rfl
  refine pure_ (i := 15) (N := (some 51)) (v := ?_) (a' := ?_) #[true, true, true, true, true, true, true, true, true, true, true, true, true, true, true, true, false, false, false, false, false, false, false, false, false, false, false, false, false, false, false, false, false, false] rfl rfl (any_of HT_.out (by kernel_rfl)) (fun _ _ _ h => h) (Or.inl ⟨by rfl, ?_⟩) ?_ ?_
  rotate_left
  · intro w'
    go_simp
    with_reducible rfl
  rotate_left
  · simp only [Act.put, List.setIfInBounds_toArray, List.set_cons_zero, List.set_cons_succ]
    rfl
  refine pure_ (i := 16) (N := (some 52)) (v := ?_) (a' := ?_) #[true, true, true, true, true, true, true, true, true, true, true, true, true, true, true, true, true, false, false, false, false, false, false, false, false, false, false, false, false, false, false, false, false, false] rfl rfl (any_of HT_.out (by kernel_rfl)) (fun _ _ _ h => h) (Or.inl ⟨by rfl, ?_⟩) ?_ ?_
  rotate_left
  · intro w'
    go_simp
    with_reducible rfl
  rotate_left
  · simp only [Act.put, List.setIfInBounds_toArray, List.set_cons_zero, List.set_cons_succ]
    rfl
  refine take_ (i := 17) (N := (some 53)) (v := ?_) (a' := ?_) #[true, true, true, true, true, true, true, true, true, true, true, true, true, true, true, true, true, true, false, false, false, false, false, false, false, false, false, false, false, false, false, false, false, false] rfl rfl (take_of HT_.out (by kernel_rfl)) (fun _ _ _ h => h) (Or.inl ⟨by rfl, ?_⟩) hHeld ?_ ?_
  rotate_left
  · intro w' hw'
    have k9 := conv_str hw'.a
    go_simp
    with_reducible rfl
  rotate_left
  · simp only [Act.put, List.setIfInBounds_toArray, List.set_cons_zero, List.set_cons_succ]
    rfl
  refine pure_ (i := 18) (N := (some 54)) (v := ?_) (a' := ?_) #[true, true, true, true, true, true, true, true, true, true, true, true, true, true, true, true, true, true, true, false, false, false, false, false, false, false, false, false, false, false, false, false, false, false] rfl rfl (any_of HT_.out (by kernel_rfl)) (fun _ _ _ h => h) (Or.inl ⟨by rfl, ?_⟩) ?_ ?_
  rotate_left
  · intro w'
    go_simp
    with_reducible rfl
  rotate_left
  · simp only [Act.put, List.setIfInBounds_toArray, List.set_cons_zero, List.set_cons_succ]
    rfl
  refine take_ (i := 19) (N := (some 55)) (v := ?_) (a' := ?_) #[true, true, true, true, true, true, true, true, true, true, true, true, true, true, true, true, true, true, true, true, false, false, false, false, false, false, false, false, false, false, false, false, false, false] rfl rfl (take_of HT_.out (by kernel_rfl)) (fun _ _ _ h => h) (Or.inl ⟨by rfl, ?_⟩) hHeld ?_ ?_
  rotate_left
  · intro w' hw'
    have k9 := conv_str hw'.c
    go_simp
    with_reducible rfl
  rotate_left
  · simp only [Act.put, List.setIfInBounds_toArray, List.set_cons_zero, List.set_cons_succ]
    rfl
  refine pure_ (i := 20) (N := (some 56)) (v := ?_) (a' := ?_) #[true, true, true, true, true, true, true, true, true, true, true, true, true, true, true, true, true, true, true, true, true, false, false, false, false, false, false, false, false, false, false, false, false, false] rfl rfl (any_of HT_.out (by kernel_rfl)) (fun _ _ _ h => h) (Or.inl ⟨by rfl, ?_⟩) ?_ ?_
  rotate_left
  · intro w'
    go_simp
    with_reducible rfl
  rotate_left
  · simp only [Act.put, List.setIfInBounds_toArray, List.set_cons_zero, List.set_cons_succ]
    rfl
  refine pure_ (i := 21) (N := (some 57)) (v := ?_) (a' := ?_) #[true, true, true, true, true, true, true, true, true, true, true, true, true, true, true, true, true, true, true, true, true, true, false, false, false, false, false, false, false, false, false, false, false, false] rfl rfl (any_of HT_.out (by kernel_rfl)) (fun _ _ _ h => h) (Or.inl ⟨by rfl, ?_⟩) ?_ ?_
  rotate_left
  · intro w'
    go_simp
    with_reducible rfl
  rotate_left
  · simp only [Act.put, List.setIfInBounds_toArray, List.set_cons_zero, List.set_cons_succ]
    rfl
  refine pure_ (i := 22) (N := (some 58)) (v := ?_) (a' := ?_) #[true, true, true, true, true, true, true, true, true, true, true, true, true, true, true, true, true, true, true, true, true, true, true, false, false, false, false, false, false, false, false, false, false, false] rfl rfl (any_of HT_.out (by kernel_rfl)) (fun _ _ _ h => h) (Or.inl ⟨by rfl, ?_⟩) ?_ ?_
  rotate_left
  · intro w'
    go_simp
    with_reducible rfl
  rotate_left
  · simp only [Act.put, List.setIfInBounds_toArray, List.set_cons_zero, List.set_cons_succ]
    rfl
  refine pure_ (i := 23) (N := (some 59)) (v := ?_) (a' := ?_) #[true, true, true, true, true, true, true, true, true, true, true, true, true, true, true, true, true, true, true, true, true, true, true, true, false, false, false, false, false, false, false, false, false, false] rfl rfl (any_of HT_.out (by kernel_rfl)) (fun _ _ _ h => h) (Or.inl ⟨by rfl, ?_⟩) ?_ ?_
  rotate_left
  · intro w'
    go_simp
    with_reducible rfl
  rotate_left
  · simp only [Act.put, List.setIfInBounds_toArray, List.set_cons_zero, List.set_cons_succ]
    rfl
  refine take_ (i := 24) (N := (some 60)) (v := ?_) (a' := ?_) #[true, true, true, true, true, true, true, true, true, true, true, true, true, true, true, true, true, true, true, true, true, true, true, true, true, false, false, false, false, false, false, false, false, false] rfl rfl (take_of HT_.out (by kernel_rfl)) (fun _ _ _ h => h) (Or.inl ⟨by rfl, ?_⟩) hHeld ?_ ?_
  rotate_left
  · intro w' hw'
    have k9 := conv_str hw'.b
    go_simp
    with_reducible rfl
  rotate_left
  · simp only [Act.put, List.setIfInBounds_toArray, List.set_cons_zero, List.set_cons_succ]
    rfl
  refine pure_ (i := 25) (N := (some 61)) (v := ?_) (a' := ?_) #[true, true, true, true, true, true, true, true, true, true, true, true, true, true, true, true, true, true, true, true, true, true, true, true, true, true, false, false, false, false, false, false, false, false] rfl rfl (any_of HT_.out (by kernel_rfl)) (fun _ _ _ h => h) (Or.inl ⟨by rfl, ?_⟩) ?_ ?_
  rotate_left
  · intro w'
    go_simp
    with_reducible rfl
  rotate_left
  · simp only [Act.put, List.setIfInBounds_toArray, List.set_cons_zero, List.set_cons_succ]
    rfl
  refine take_ (i := 26) (N := (some 62)) (v := ?_) (a' := ?_) #[true, true, true, true, true, true, true, true, true, true, true, true, true, true, true, true, true, true, true, true, true, true, true, true, true, true, true, false, false, false, false, false, false, false] rfl rfl (take_of HT_.out (by kernel_rfl)) (fun _ _ _ h => h) (Or.inl ⟨by rfl, ?_⟩) hHeld ?_ ?_
  rotate_left
  · intro w' hw'
    have k9 := conv_str hw'.c
    go_simp
    with_reducible rfl
  rotate_left
  · simp only [Act.put, List.setIfInBounds_toArray, List.set_cons_zero, List.set_cons_succ]
    rfl
  refine pure_ (i := 27) (N := (some 63)) (v := ?_) (a' := ?_) #[true, true, true, true, true, true, true, true, true, true, true, true, true, true, true, true, true, true, true, true, true, true, true, true, true, true, true, true, false, false, false, false, false, false] rfl rfl (any_of HT_.out (by kernel_rfl)) (fun _ _ _ h => h) (Or.inl ⟨by rfl, ?_⟩) ?_ ?_
  rotate_left
  · intro w'
    go_simp
    with_reducible rfl
  rotate_left
  · simp only [Act.put, List.setIfInBounds_toArray, List.set_cons_zero, List.set_cons_succ]
    rfl
  refine pure_ (i := 28) (N := (some 64)) (v := ?_) (a' := ?_) #[true, true, true, true, true, true, true, true, true, true, true, true, true, true, true, true, true, true, true, true, true, true, true, true, true, true, true, true, true, false, false, false, false, false] rfl rfl (any_of HT_.out (by kernel_rfl)) (fun _ _ _ h => h) (Or.inl ⟨by rfl, ?_⟩) ?_ ?_
  rotate_left
  · intro w'
    go_simp
    with_reducible rfl
  rotate_left
  · simp only [Act.put, List.setIfInBounds_toArray, List.set_cons_zero, List.set_cons_succ]
    rfl
  refine pure_ (i := 29) (N := (some 65)) (v := ?_) (a' := ?_) #[true, true, true, true, true, true, true, true, true, true, true, true, true, true, true, true, true, true, true, true, true, true, true, true, true, true, true, true, true, true, false, false, false, false] rfl rfl (any_of HT_.out (by kernel_rfl)) (fun _ _ _ h => h) (Or.inl ⟨by rfl, ?_⟩) ?_ ?_
  rotate_left
  · intro w'
    go_simp
    with_reducible rfl
  rotate_left
  · simp only [Act.put, List.setIfInBounds_toArray, List.set_cons_zero, List.set_cons_succ]
    rfl
  refine pure_ (i := 30) (N := (some 66)) (v := ?_) (a' := ?_) #[true, true, true, true, true, true, true, true, true, true, true, true, true, true, true, true, true, true, true, true, true, true, true, true, true, true, true, true, true, true, true, false, false, false] rfl rfl (any_of HT_.out (by kernel_rfl)) (fun _ _ _ h => h) (Or.inl ⟨by rfl, ?_⟩) ?_ ?_
  rotate_left
  · intro w'
    go_simp
    with_reducible rfl
  rotate_left
  · simp only [Act.put, List.setIfInBounds_toArray, List.set_cons_zero, List.set_cons_succ]
    rfl
  refine pure_ (i := 31) (N := (some 67)) (v := ?_) (a' := ?_) #[true, true, true, true, true, true, true, true, true, true, true, true, true, true, true, true, true, true, true, true, true, true, true, true, true, true, true, true, true, true, true, true, false, false] rfl rfl (any_of HT_.out (by kernel_rfl)) (fun _ _ _ h => h) (Or.inl ⟨by rfl, ?_⟩) ?_ ?_
  rotate_left
  · intro w'
    go_simp
    with_reducible rfl
  rotate_left
  · simp only [Act.put, List.setIfInBounds_toArray, List.set_cons_zero, List.set_cons_succ]
    rfl
  refine pure_ (i := 32) (N := (some 68)) (v := ?_) (a' := ?_) #[true, true, true, true, true, true, true, true, true, true, true, true, true, true, true, true, true, true, true, true, true, true, true, true, true, true, true, true, true, true, true, true, true, false] rfl rfl (any_of HT_.out (by kernel_rfl)) (fun _ _ _ h => h) (Or.inl ⟨by rfl, ?_⟩) ?_ ?_
  rotate_left
  · intro w'
    go_simp
    with_reducible rfl
  rotate_left
  · simp only [Act.put, List.setIfInBounds_toArray, List.set_cons_zero, List.set_cons_succ]
    rfl
  refine pure_ (i := 33) (N := (some 69)) (v := ?_) (a' := ?_) #[true, true, true, true, true, true, true, true, true, true, true, true, true, true, true, true, true, true, true, true, true, true, true, true, true, true, true, true, true, true, true, true, true, true] rfl rfl (any_of HT_.out (by kernel_rfl)) (fun _ _ _ h => h) (Or.inl ⟨by rfl, ?_⟩) ?_ ?_
  rotate_left
  · intro w'
    go_simp
    with_reducible rfl
  rotate_left
  · simp only [Act.put, List.setIfInBounds_toArray, List.set_cons_zero, List.set_cons_succ]
    rfl
  refine done_ (done_of HT_.out (by kernel_rfl)) ?_
  clear HT_ HW_
  have hs9 := Hk9.out.be.size
  go_wp2_with fail
  have hst := St.made (k := .u8) (e := 5) (T := 25) (base := w.heap.size) (w := w9) (its := [(.slice A4 L.length c4, L), (.slice A6 L.length c6, L), (.slice A8 64 c8, L8)]) hs9 (by simp)
    (by
      intro q hq
      simp only [List.mem_cons, List.mem_nil_iff, or_false] at hq
      rcases hq with rfl | rfl | rfl
      · exact Hk9.out.o4.oi
      · exact Hk9.out.o6.oi
      · exact Hk9.out.o8.oi)
    (lo := 0) ⟨_, _, Nat.zero_le _, Hlie.out.1, ⟨_, _, Nat.le_refl _, Hlie.out.2.1, ⟨_, _, Nat.le_refl _, Hlie.out.2.2, trivial, hs6⟩, hs5⟩, hs4⟩ rfl
  refine (apart_any _ w.heap.size _ _ hst (by simp; omega) (by simp) ?_).mono ?_
  · intro j q hq
    have := List.mem_of_getElem? hq
    have h8 := HL8.out
    simp only [List.mem_cons, List.mem_nil_iff, or_false] at this
    rcases this with rfl | rfl | rfl <;> simp only <;> omega
  rintro e w13 ⟨rfl, hb13⟩
  go_wp2_with fail
  go_ret
  exact ⟨rfl, (below_alloc Hk9.out.be _).trans hb13⟩
theorem recordEncodes_walk (v : Value) (r : Rec) (w : World) (hv : v = .agg r.cells ∧ r.ok) (ht : Tab w) :
    Calls Tryd.prog 12 #[v] w fun e w' => e = .returned (.bool true) ∧ Below w.heap.size w w' := by
  obtain ⟨rfl, hr⟩ := hv
  exact recordEncodes_rec r w hr ht

end Go.Proofs.YtblfmofhfbbmdaaDoor
