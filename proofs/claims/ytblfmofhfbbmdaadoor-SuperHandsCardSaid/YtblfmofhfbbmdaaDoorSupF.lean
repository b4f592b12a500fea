/- The program's Decode of a superblock. -/
import Derived.Test.YtblfmofhfbbmdaaDoorSupE
import Derived.Test.YtblfmofhfbbmdaaDoorWTab
set_option linter.unusedVariables false
set_option linter.unusedSimpArgs false
namespace Go.Proofs.YtblfmofhfbbmdaaDoor
open Go.RowKit Crc Go.Proofs.YtblfmofhfbbmdaaDoorW.PrintWords Go.Proofs.YtblfmofhfbbmdaaDoorW.PrintLast

theorem numU_one (x : Int) (h : 0 ≤ x ∧ x < 256) : numU [x] = x := by simp only [numU]; omega
theorem take_one_at (b : List Int) (k : Nat) (h : k < b.length) : (b.drop k).take 1 = [b[k]?.getD 0] := by
  rw [List.drop_eq_getElem_cons h, List.getElem?_eq_getElem h]; rfl
def numsS (b : List Int) : List Int := [numU ((b.drop 6).take 1), numU ((b.drop 7).take 1), numU ((b.drop 8).take 1), numU ((b.drop 9).take 1), numU ((b.drop 10).take 1), numU ((b.drop 11).take 1), numU ((b.drop 12).take 1), numU ((b.drop 13).take 3), numU ((b.drop 16).take 8), numU ((b.drop 24).take 8)]
theorem fields_sup (b : List Int) (hl : b.length = 64) : fields (b.drop 6) widthsL = (numsS b, b.drop 32, 0) := by
  have hg : fieldsGo (b.drop 6) widthsL = some (numsS b, b.drop 32) := by
    unfold widthsL numsS
    rw [fieldsGo, if_neg (by rw [List.length_drop, hl]; decide), fieldsGo, if_neg (by rw [List.length_drop, List.length_drop, hl]; decide), fieldsGo, if_neg (by simp only [List.length_drop, hl]; decide), fieldsGo, if_neg (by simp only [List.length_drop, hl]; decide), fieldsGo, if_neg (by simp only [List.length_drop, hl]; decide), fieldsGo, if_neg (by simp only [List.length_drop, hl]; decide), fieldsGo, if_neg (by simp only [List.length_drop, hl]; decide), fieldsGo, if_neg (by simp only [List.length_drop, hl]; decide), fieldsGo, if_neg (by simp only [List.length_drop, hl]; decide), fieldsGo, if_neg (by simp only [List.length_drop, hl]; decide), fieldsGo]
    simp only [Option.map_some, List.drop_drop]
    rfl
  rw [fields_ok (by intro s hs; simp [widthsL] at hs; rcases hs with rfl | rfl | rfl <;> (unfold okSize; omega)) hg]
theorem b48_sup (s : Sup) : Tryd.prog.built 48 [(0, .int .i64 s.b), (1, .int .i64 s.l), (2, .int .i64 s.m), (3, .int .i64 s.h), (4, .int .i64 s.c)] = some s.cfg := by kernel_rfl
theorem b54_sup (s : Sup) : Tryd.prog.built 54 [(0, .agg s.cfg), (1, .int .u64 s.t), (2, .int .u64 s.f)] = some s.cells := by kernel_rfl
theorem b51_sup (s : Sup) : Tryd.prog.built 51 [(0, .agg s.cfg), (1, .int .u64 s.t), (2, .int .u64 s.f)] = some s.cells := by kernel_rfl
structure S35 (ad : Addr) (c : Nat) (b : List Int) (w : World) : Prop where
  v : RBy w (.slice (some ad) 64 c) b
  w : Wid w
theorem S35.below {ad : Addr} {c : Nat} {b : List Int} {w w' : World} (h : S35 ad c b w) (hb : Below w.heap.size w w') : S35 ad c b w' := ⟨h.v.below hb, h.w.below hb⟩
structure S354 (g : Nat) (s : Sup) (w : World) : Prop where
  b : w.cell? ⟨g, 2, none⟩ = some (.int .u64 s.b)
  l : w.cell? ⟨g, 3, none⟩ = some (.int .u64 s.l)
  m : w.cell? ⟨g, 4, none⟩ = some (.int .u64 s.m)
  h : w.cell? ⟨g, 5, none⟩ = some (.int .u64 s.h)
  c : w.cell? ⟨g, 6, none⟩ = some (.int .u64 s.c)
  t : w.cell? ⟨g, 8, none⟩ = some (.int .u64 s.t)
  f : w.cell? ⟨g, 9, none⟩ = some (.int .u64 s.f)
theorem S354.below {g : Nat} {s : Sup} {w w' : World} (h : S354 g s w) (hb : Below w.heap.size w w') : S354 g s w' :=
  ⟨keep_cell hb (Nat.le_refl _) h.b, keep_cell hb (Nat.le_refl _) h.l, keep_cell hb (Nat.le_refl _) h.m, keep_cell hb (Nat.le_refl _) h.h, keep_cell hb (Nat.le_refl _) h.c, keep_cell hb (Nat.le_refl _) h.t, keep_cell hb (Nat.le_refl _) h.f⟩
def T35_3 : Bool × List (List Nat × List Nat) := (true, [([], []), ([0], [0]), ([], []), ([1, 2, 2], [1, 2]), ([3], [3]), ([4], [4]), ([4], [4]), ([4], [4]), ([5, 3, 0, 1, 2, 3, 4, 5], [5]), ([6, 8, 0, 1, 2, 3, 4, 5, 6, 8], [6]), ([7, 9, 0, 1, 2, 3, 4, 5, 6, 7, 8, 9], [7])])
def B35_3 : List Nat := [0, 1, 0, 7, 15, 31, 31, 31, 63, 383, 1023]
theorem tab35_3 : rtab .any (opsOf Tryd.f35 3) = T35_3 := by kernel_rfl
theorem bits35_3 : waitsOk T35_3.2 B35_3 = true := by kernel_rfl
def T35_4 : Bool × List (List Nat × List Nat) := (true, [([], []), ([0], [0]), ([1], [1]), ([2], [2]), ([], []), ([4], [4]), ([5], [5]), ([6], [6]), ([], []), ([8], [8]), ([9], [9]), ([10], [10]), ([], []), ([12], [12]), ([13], [13]), ([14], [14]), ([], []), ([16], [16]), ([17], [17]), ([18], [18]), ([3, 7, 11, 15, 19], [3, 7, 11, 15, 19]), ([], []), ([21], [21]), ([22], [22]), ([], []), ([24], [24]), ([25], [25]), ([20, 23, 26], [20, 23, 26]), ([], []), ([28, 27, 0, 1, 2, 3, 4, 5, 6, 7, 8, 9, 10, 11, 12, 13, 14, 15, 16, 17, 18, 19, 20, 21, 22, 23, 24, 25, 26, 27, 28], [27, 28])])
def B35_4 : List Nat := [0, 1, 3, 7, 0, 16, 48, 112, 0, 256, 768, 1792, 0, 4096, 12288, 28672, 0, 65536, 196608, 458752, 1048575, 0, 2097152, 6291456, 0, 16777216, 50331648, 134217727, 0, 536870911]
theorem tab35_4 : rtab .any (opsOf Tryd.f35 4) = T35_4 := by kernel_rfl
theorem bits35_4 : waitsOk T35_4.2 B35_4 = true := by kernel_rfl
theorem sdecE_len {b : List Int} (hl : b.length ≠ 64) : sdecE b = 2 ∧ sdecV b = Sup.zero := ⟨if_neg hl, if_neg fun h => hl h.1⟩
set_option maxRecDepth 100000 in
set_option maxHeartbeats 4000000 in
theorem sdec_len (v : Value) (b : List Int) (w : World) (hv : RBy w v b) (hl : b.length ≠ 64) :
    Calls Tryd.prog 35 #[v] w fun e w' => e = .returned (.tuple #[.agg (sdecV b).cells, .int .i64 (sdecE b)]) ∧ Below w.heap.size w w' := by
  rw [(sdecE_len hl).1, (sdecE_len hl).2]
  obtain ⟨A, c, rfl, -⟩ := hv.form
  have hne : ((b.length : Int) != 64) = true := by simp; omega
  have HZ := Lib.hid (SAt.new 54 w Sup.zero)
  clear hl hv
  go_enter Tryd.func35, Tryd.ntmps35
  go_wp2_with (first
    | (refine go_value (o := ⟨some 2, _, _, _, _, _⟩) (by rfl) (ex_alloc (run_alloc54 _) rfl) ?_)
    | (refine go_value (o := ⟨some 13, _, _, _, _, _⟩) (by rfl) (ex_build b54_none rfl rfl) ?_)
    | (refine go_skip (o := ⟨none, .store 54 _ _, _, _, _, _⟩) (by rfl) (ex_store (HZ.out.store54 (s := Sup.zero)) rfl rfl rfl) ?_))
  refine bodyPost_ret_by (results_cell_tmp (p := 2) (q := 3) (ty := 54) (by kernel_rfl) _ _ w.heap.size Sup.zero.cells (.int .i64 2) ((HZ.out.set (s := Sup.zero)).load54) rfl rfl) rfl ⟨rfl, Below.setRow' (below_alloc (Below.refl _ _) _) (Nat.le_refl _) _⟩
set_option maxRecDepth 100000 in
set_option maxHeartbeats 8000000 in
theorem sdec_any64 (v : Value) (b : List Int) (w : World) (hv : RBy w v b) (hl : b.length = 64) (ht : Tab w) (hw : Wid w) :
    Calls Tryd.prog 35 #[v] w fun e w' => e = .returned (.tuple #[.agg (sdecV b).cells, .int .i64 (sdecE b)]) ∧ Below w.heap.size w w' := by
  obtain ⟨A, c, rfl, hc, hn, hb, hA, hcell⟩ := id hv
  obtain ⟨ad, rfl, hcs⟩ := hcell (by omega)
  rw [hl] at hv hc ⊢
  have HZ := Lib.hid (SAt.new 54 w Sup.zero)
  have Hv := Lib.hid hv
  have Hb : Hid (IsB b) := Lib.hid hb
  have Ht := Lib.hid ht
  have Hw := Lib.hid hw
  have hb0 := Lib.hid (below_alloc (Below.refl w.heap.size w) (.cells Sup.zero.cells 54))
  have hc6 : c ≠ 6 := by omega
  obtain ⟨N, hN⟩ : ∃ N, numsS b = N := ⟨_, rfl⟩
  have hNl : N.length = 10 := by rw [← hN]; rfl
  have Hf : Hid (fields (b.drop 6) widthsL = (N, b.drop 32, 0)) := Lib.hid (by rw [fields_sup b hl, hN])
  have HN := Lib.hid hN
  clear hv hcell hb hcs hA hn ht hw hN
  go_enter Tryd.func35, Tryd.ntmps35
  obtain ⟨w1, hw1⟩ : ∃ w1, w.alloc (.cells Sup.zero.cells 54) = w1 := ⟨_, rfl⟩
  have hne : ((64 : Int) != 64) = false := by decide
  go_upto_region 3 with (first
    | (refine go_value (o := ⟨some 2, _, _, _, _, _⟩) (by rfl) (ex_alloc (run_alloc54 _) rfl) ?_)
    | fail)
  rw [hw1] at HZ hb0
  clear hw1
  have hS0 : S35 ad c b w1.drew := (S35.mk (Hv.out.below hb0.out) (Hw.out.below hb0.out)).below (below_drew (Below.refl _ _))
  have HB1d := Lib.hid (below_drew hb0.out)
  have HZ1d := Lib.hid (HZ.out.below (below_drew (Below.refl _ _)))
  clear hb0 HZ hne
  refine start_ (n := 11) (S := S35 ad c b) (ds := []) #[false, false, false, false, false, false, false, false, false, false, false] (by kernel_rfl) rfl rfl (hS0) (fun hHeld => ?_); refine with_tabW tab35_3 bits35_3 (fun HT_ HW_ => ?_)
  clear hS0
  generalize w1.drew = w1d at HB1d HZ1d hHeld ⊢
  refine pure_ (i := 0) (N := (some 15)) (v := ?_) (a' := ?_) #[true, false, false, false, false, false, false, false, false, false, false] rfl rfl (any_of HT_.out (by kernel_rfl)) (fun _ _ _ h => h) (Or.inl ⟨by rfl, ?_⟩) ?_ ?_
  rotate_left
  · intro w'
    go_simp
    with_reducible rfl
  rotate_left
  · simp only [Act.put, List.setIfInBounds_toArray, List.set_cons_zero, List.set_cons_succ]
    rfl
  refine pure_ (i := 1) (N := (some 16)) (v := ?_) (a' := ?_) #[true, true, false, false, false, false, false, false, false, false, false] rfl rfl (any_of HT_.out (by kernel_rfl)) (fun _ _ _ h => h) (Or.inl ⟨by rfl, ?_⟩) ?_ ?_
  rotate_left
  · intro w'
    go_simp
    with_reducible rfl
  rotate_left
  · simp only [Act.put, List.setIfInBounds_toArray, List.set_cons_zero, List.set_cons_succ]
    rfl
  refine one_ (i := 2) (N := (some 17)) #[true, true, true, false, false, false, false, false, false, false, false] rfl rfl (one_of HT_.out (by kernel_rfl)) (by decide) (fun K hK => ?_)
  refine call_ 65 #[] (by rfl) rfl (by go_simp) ?_
  refine (sizes_any _ hHeld.w).mono ?_
  rintro e w2 ⟨vs, rfl, hvs, hb2⟩
  have HB2 := Lib.hid (below_then HB1d.out hb2)
  have HZ2 := Lib.hid (HZ1d.out.below hb2)
  clear HB1d HZ1d
  refine ⟨_, rfl, ?_⟩
  refine hK.out _ _ (hHeld.below hb2) (fun hHeld => ?_)
  clear hK K
  refine norm_ (a' := ?_) ?_ ?_
  rotate_left
  · show Act.put _ (some 17) _ = _
    simp only [Act.put, List.setIfInBounds_toArray, List.set_cons_zero, List.set_cons_succ]
    rfl
  refine one_ (i := 3) (N := (some 18)) #[true, true, true, true, false, false, false, false, false, false, false] rfl rfl (one_of HT_.out (by kernel_rfl)) (by decide) (fun K hK => ?_)
  refine call_ 64 #[.slice (some (ad.add 6)) 58 (c - 6), vs] (by rfl) rfl (by go_simp) ?_
  have hvs6 := hHeld.v.rest (s := 6) (by omega)
  rw [if_neg hc6] at hvs6
  refine (fields_any _ (b.drop 6) vs widthsL _ hvs6 hvs.reads (by decide) (by rw [List.length_drop]; omega) (by decide)).mono ?_
  rw [Hf.out]
  rintro e w3 ⟨v1, v2, rfl, ho1, ho2, hb3⟩
  obtain ⟨g1, cap1, rfl, -, hcap1, -, -⟩ := ho1.form (by rw [hNl]; omega)
  rw [hNl] at ho1 hcap1 ⊢
  have HB3 := Lib.hid (below_then HB2.out hb3)
  have HZ3 := Lib.hid (HZ2.out.below hb3)
  have Ho1 := Lib.hid ho1
  clear HB2 HZ2 hvs6 hvs hb2 ho1 ho2
  refine ⟨_, rfl, ?_⟩
  refine hK.out _ _ (hHeld.below hb3) (fun hHeld => ?_)
  clear hK K
  refine norm_ (a' := ?_) ?_ ?_
  rotate_left
  · show Act.put _ (some 18) _ = _
    simp only [Act.put, List.setIfInBounds_toArray, List.set_cons_zero, List.set_cons_succ]
    rfl
  refine pure_ (i := 4) (N := (some 14)) (v := ?_) (a' := ?_) #[true, true, true, true, true, false, false, false, false, false, false] rfl rfl (any_of HT_.out (by kernel_rfl)) (fun _ _ _ h => h) (Or.inl ⟨by rfl, ?_⟩) ?_ ?_
  rotate_left
  · intro w'
    go_simp
    with_reducible rfl
  rotate_left
  · simp only [Act.put, List.setIfInBounds_toArray, List.set_cons_zero, List.set_cons_succ]
    rfl
  refine pure_ (i := 5) (N := (some 19)) (v := ?_) (a' := ?_) #[true, true, true, true, true, true, false, false, false, false, false] rfl rfl (any_of HT_.out (by kernel_rfl)) (fun _ _ _ h => h) (Or.inl ⟨by rfl, ?_⟩) ?_ ?_
  rotate_left
  · intro w'
    go_simp
    with_reducible rfl
  rotate_left
  · simp only [Act.put, List.setIfInBounds_toArray, List.set_cons_zero, List.set_cons_succ]
    rfl
  refine pure_ (i := 6) (N := (some 20)) (v := ?_) (a' := ?_) #[true, true, true, true, true, true, true, false, false, false, false] rfl rfl (any_of HT_.out (by kernel_rfl)) (fun _ _ _ h => h) (Or.inl ⟨by rfl, ?_⟩) ?_ ?_
  rotate_left
  · intro w'
    go_simp
    with_reducible rfl
  rotate_left
  · simp only [Act.put, List.setIfInBounds_toArray, List.set_cons_zero, List.set_cons_succ]
    rfl
  refine pure_ (i := 7) (N := (some 21)) (v := ?_) (a' := ?_) #[true, true, true, true, true, true, true, true, false, false, false] rfl rfl (any_of HT_.out (by kernel_rfl)) (fun _ _ _ h => h) (Or.inl ⟨by rfl, ?_⟩) ?_ ?_
  rotate_left
  · intro w'
    go_simp
    with_reducible rfl
  rotate_left
  · simp only [Act.put, List.setIfInBounds_toArray, List.set_cons_zero, List.set_cons_succ]
    rfl
  refine pure_ (i := 8) (N := (some 4)) (v := ?_) (a' := ?_) #[true, true, true, true, true, true, true, true, true, false, false] rfl rfl (any_of HT_.out (by kernel_rfl)) (fun _ _ _ h => h) (Or.inl ⟨by rfl, ?_⟩) ?_ ?_
  rotate_left
  · intro w'
    go_simp
    with_reducible rfl
  rotate_left
  · simp only [Act.put, List.setIfInBounds_toArray, List.set_cons_zero, List.set_cons_succ]
    rfl
  refine pure_ (i := 9) (N := (some 5)) (v := ?_) (a' := ?_) #[true, true, true, true, true, true, true, true, true, true, false] rfl rfl (any_of HT_.out (by kernel_rfl)) (fun _ _ _ h => h) (Or.inl ⟨by rfl, ?_⟩) ?_ ?_
  rotate_left
  · intro w'
    go_simp
    with_reducible rfl
  rotate_left
  · simp only [Act.put, List.setIfInBounds_toArray, List.set_cons_zero, List.set_cons_succ]
    rfl
  refine pure_ (i := 10) (N := (some 6)) (v := ?_) (a' := ?_) #[true, true, true, true, true, true, true, true, true, true, true] rfl rfl (any_of HT_.out (by kernel_rfl)) (fun _ _ _ h => h) (Or.inl ⟨by rfl, ?_⟩) ?_ ?_
  rotate_left
  · intro w'
    go_simp
    with_reducible rfl
  rotate_left
  · simp only [Act.put, List.setIfInBounds_toArray, List.set_cons_zero, List.set_cons_succ]
    rfl
  refine done_ (done_of HT_.out (by kernel_rfl)) ?_
  clear HT_ HW_
  go_upto_region 4 with fail
  have hS4 : S354 g1 (sdecR b) w3.drew := by
    have e : ∀ k, k < 64 → numU ((b.drop k).take 1) = b[k]?.getD 0 := fun k hk => by
      rw [take_one_at b k (by omega), numU_one _ (isB_at Hb.out k)]
    have hh := Ho1.out
    rw [← HN.out] at hh
    have n2 := hh.cell 2 (show (2 : Nat) < 10 by decide)
    have n3 := hh.cell 3 (show (3 : Nat) < 10 by decide)
    have n4 := hh.cell 4 (show (4 : Nat) < 10 by decide)
    have n5 := hh.cell 5 (show (5 : Nat) < 10 by decide)
    have n6 := hh.cell 6 (show (6 : Nat) < 10 by decide)
    have n8 := hh.cell 8 (show (8 : Nat) < 10 by decide)
    have n9 := hh.cell 9 (show (9 : Nat) < 10 by decide)
    simp only [numsS, List.getElem?_cons_zero, List.getElem?_cons_succ, Option.getD_some] at n2 n3 n4 n5 n6 n8 n9
    rw [e 8 (by omega)] at n2
    rw [e 9 (by omega)] at n3
    rw [e 10 (by omega)] at n4
    rw [e 11 (by omega)] at n5
    rw [e 12 (by omega)] at n6
    exact S354.below ⟨n2, n3, n4, n5, n6, n8, n9⟩ (below_drew (Below.refl _ _))
  have HB3d := Lib.hid (below_drew HB3.out)
  have HZ3d := Lib.hid (HZ3.out.below (below_drew (Below.refl _ _)))
  have Hv3d := Lib.hid (Hv.out.below HB3d.out)
  have hSo := sdecR_ok b Hb.out
  have hSb : (0 ≤ (sdecR b).b ∧ (sdecR b).b < 256) ∧ (0 ≤ (sdecR b).l ∧ (sdecR b).l < 256) ∧ (0 ≤ (sdecR b).m ∧ (sdecR b).m < 256) ∧ (0 ≤ (sdecR b).h ∧ (sdecR b).h < 256) ∧ (0 ≤ (sdecR b).c ∧ (sdecR b).c < 256) := ⟨isB_at Hb.out 8, isB_at Hb.out 9, isB_at Hb.out 10, isB_at Hb.out 11, isB_at Hb.out 12⟩
  have HD : Hid (sdecOk b ↔ SupOk (sdecR b) ∧ enc7 (sdecR b) = b) := Lib.hid ⟨fun h => h.2, fun h => ⟨hl, h⟩⟩
  have HDV : Hid (sdecOk b → sdecV b = sdecR b) := Lib.hid fun h => if_pos h
  obtain ⟨S, hS⟩ : ∃ S, sdecR b = S := ⟨_, rfl⟩
  rw [hS] at hS4 hSo hSb HD HDV
  obtain ⟨⟨b1, b2⟩, ⟨l1, l2⟩, ⟨m1, m2⟩, ⟨x1, x2⟩, ⟨c1, c2⟩⟩ := hSb
  have wb : IntKind.i64.wrap S.b = S.b := by rw [IntKind.wrap_i64]; omega
  have wl : IntKind.i64.wrap S.l = S.l := by rw [IntKind.wrap_i64]; omega
  have wm : IntKind.i64.wrap S.m = S.m := by rw [IntKind.wrap_i64]; omega
  have wh : IntKind.i64.wrap S.h = S.h := by rw [IntKind.wrap_i64]; omega
  have wc : IntKind.i64.wrap S.c = S.c := by rw [IntKind.wrap_i64]; omega
  clear hS HB3 HZ3 Ho1 HN Hf hcap1 hNl hc6
  refine start_ (n := 30) (S := S354 g1 S) (ds := []) #[false, false, false, false, false, false, false, false, false, false, false, false, false, false, false, false, false, false, false, false, false, false, false, false, false, false, false, false, false, false] (by kernel_rfl) rfl rfl (hS4) (fun hHeld => ?_); refine with_tabW tab35_4 bits35_4 (fun HT_ HW_ => ?_)
  clear hS4
  generalize w3.drew = w3d at HB3d HZ3d Hv3d hHeld ⊢
  refine pure_ (i := 0) (N := (some 22)) (v := ?_) (a' := ?_) #[true, false, false, false, false, false, false, false, false, false, false, false, false, false, false, false, false, false, false, false, false, false, false, false, false, false, false, false, false, false] rfl rfl (any_of HT_.out (by kernel_rfl)) (fun _ _ _ h => h) (Or.inl ⟨by rfl, ?_⟩) ?_ ?_
  rotate_left
  · intro w'
    go_simp
    with_reducible rfl
  rotate_left
  · simp only [Act.put, List.setIfInBounds_toArray, List.set_cons_zero, List.set_cons_succ]
    rfl
  refine pure_ (i := 1) (N := (some 23)) (v := ?_) (a' := ?_) #[true, true, false, false, false, false, false, false, false, false, false, false, false, false, false, false, false, false, false, false, false, false, false, false, false, false, false, false, false, false] rfl rfl (any_of HT_.out (by kernel_rfl)) (fun _ _ _ h => h) (Or.inl ⟨by rfl, ?_⟩) ?_ ?_
  rotate_left
  · intro w'
    go_simp
    with_reducible rfl
  rotate_left
  · simp only [Act.put, List.setIfInBounds_toArray, List.set_cons_zero, List.set_cons_succ]
    rfl
  refine take_ (i := 2) (N := (some 24)) (v := ?_) (a' := ?_) #[true, true, true, false, false, false, false, false, false, false, false, false, false, false, false, false, false, false, false, false, false, false, false, false, false, false, false, false, false, false] rfl rfl (take_of HT_.out (by kernel_rfl)) (fun _ _ _ h => h) (Or.inl ⟨by rfl, ?_⟩) hHeld ?_ ?_
  rotate_left
  · intro w' hw'
    have k9 := hw'.b
    go_simp
    with_reducible rfl
  rotate_left
  · simp only [Act.put, List.setIfInBounds_toArray, List.set_cons_zero, List.set_cons_succ]
    rfl
  refine pure_ (i := 3) (N := (some 25)) (v := ?_) (a' := ?_) #[true, true, true, true, false, false, false, false, false, false, false, false, false, false, false, false, false, false, false, false, false, false, false, false, false, false, false, false, false, false] rfl rfl (any_of HT_.out (by kernel_rfl)) (fun _ _ _ h => h) (Or.inl ⟨by rfl, ?_⟩) ?_ ?_
  rotate_left
  · intro w'
    go_simp
    with_reducible rfl
  rotate_left
  · simp only [Act.put, List.setIfInBounds_toArray, List.set_cons_zero, List.set_cons_succ]
    rfl
  refine pure_ (i := 4) (N := (some 26)) (v := ?_) (a' := ?_) #[true, true, true, true, true, false, false, false, false, false, false, false, false, false, false, false, false, false, false, false, false, false, false, false, false, false, false, false, false, false] rfl rfl (any_of HT_.out (by kernel_rfl)) (fun _ _ _ h => h) (Or.inl ⟨by rfl, ?_⟩) ?_ ?_
  rotate_left
  · intro w'
    go_simp
    with_reducible rfl
  rotate_left
  · simp only [Act.put, List.setIfInBounds_toArray, List.set_cons_zero, List.set_cons_succ]
    rfl
  refine pure_ (i := 5) (N := (some 27)) (v := ?_) (a' := ?_) #[true, true, true, true, true, true, false, false, false, false, false, false, false, false, false, false, false, false, false, false, false, false, false, false, false, false, false, false, false, false] rfl rfl (any_of HT_.out (by kernel_rfl)) (fun _ _ _ h => h) (Or.inl ⟨by rfl, ?_⟩) ?_ ?_
  rotate_left
  · intro w'
    go_simp
    with_reducible rfl
  rotate_left
  · simp only [Act.put, List.setIfInBounds_toArray, List.set_cons_zero, List.set_cons_succ]
    rfl
  refine take_ (i := 6) (N := (some 28)) (v := ?_) (a' := ?_) #[true, true, true, true, true, true, true, false, false, false, false, false, false, false, false, false, false, false, false, false, false, false, false, false, false, false, false, false, false, false] rfl rfl (take_of HT_.out (by kernel_rfl)) (fun _ _ _ h => h) (Or.inl ⟨by rfl, ?_⟩) hHeld ?_ ?_
  rotate_left
  · intro w' hw'
    have k9 := hw'.l
    go_simp
    with_reducible rfl
  rotate_left
  · simp only [Act.put, List.setIfInBounds_toArray, List.set_cons_zero, List.set_cons_succ]
    rfl
  refine pure_ (i := 7) (N := (some 29)) (v := ?_) (a' := ?_) #[true, true, true, true, true, true, true, true, false, false, false, false, false, false, false, false, false, false, false, false, false, false, false, false, false, false, false, false, false, false] rfl rfl (any_of HT_.out (by kernel_rfl)) (fun _ _ _ h => h) (Or.inl ⟨by rfl, ?_⟩) ?_ ?_
  rotate_left
  · intro w'
    go_simp
    with_reducible rfl
  rotate_left
  · simp only [Act.put, List.setIfInBounds_toArray, List.set_cons_zero, List.set_cons_succ]
    rfl
  refine pure_ (i := 8) (N := (some 30)) (v := ?_) (a' := ?_) #[true, true, true, true, true, true, true, true, true, false, false, false, false, false, false, false, false, false, false, false, false, false, false, false, false, false, false, false, false, false] rfl rfl (any_of HT_.out (by kernel_rfl)) (fun _ _ _ h => h) (Or.inl ⟨by rfl, ?_⟩) ?_ ?_
  rotate_left
  · intro w'
    go_simp
    with_reducible rfl
  rotate_left
  · simp only [Act.put, List.setIfInBounds_toArray, List.set_cons_zero, List.set_cons_succ]
    rfl
  refine pure_ (i := 9) (N := (some 31)) (v := ?_) (a' := ?_) #[true, true, true, true, true, true, true, true, true, true, false, false, false, false, false, false, false, false, false, false, false, false, false, false, false, false, false, false, false, false] rfl rfl (any_of HT_.out (by kernel_rfl)) (fun _ _ _ h => h) (Or.inl ⟨by rfl, ?_⟩) ?_ ?_
  rotate_left
  · intro w'
    go_simp
    with_reducible rfl
  rotate_left
  · simp only [Act.put, List.setIfInBounds_toArray, List.set_cons_zero, List.set_cons_succ]
    rfl
  refine take_ (i := 10) (N := (some 32)) (v := ?_) (a' := ?_) #[true, true, true, true, true, true, true, true, true, true, true, false, false, false, false, false, false, false, false, false, false, false, false, false, false, false, false, false, false, false] rfl rfl (take_of HT_.out (by kernel_rfl)) (fun _ _ _ h => h) (Or.inl ⟨by rfl, ?_⟩) hHeld ?_ ?_
  rotate_left
  · intro w' hw'
    have k9 := hw'.m
    go_simp
    with_reducible rfl
  rotate_left
  · simp only [Act.put, List.setIfInBounds_toArray, List.set_cons_zero, List.set_cons_succ]
    rfl
  refine pure_ (i := 11) (N := (some 33)) (v := ?_) (a' := ?_) #[true, true, true, true, true, true, true, true, true, true, true, true, false, false, false, false, false, false, false, false, false, false, false, false, false, false, false, false, false, false] rfl rfl (any_of HT_.out (by kernel_rfl)) (fun _ _ _ h => h) (Or.inl ⟨by rfl, ?_⟩) ?_ ?_
  rotate_left
  · intro w'
    go_simp
    with_reducible rfl
  rotate_left
  · simp only [Act.put, List.setIfInBounds_toArray, List.set_cons_zero, List.set_cons_succ]
    rfl
  refine pure_ (i := 12) (N := (some 34)) (v := ?_) (a' := ?_) #[true, true, true, true, true, true, true, true, true, true, true, true, true, false, false, false, false, false, false, false, false, false, false, false, false, false, false, false, false, false] rfl rfl (any_of HT_.out (by kernel_rfl)) (fun _ _ _ h => h) (Or.inl ⟨by rfl, ?_⟩) ?_ ?_
  rotate_left
  · intro w'
    go_simp
    with_reducible rfl
  rotate_left
  · simp only [Act.put, List.setIfInBounds_toArray, List.set_cons_zero, List.set_cons_succ]
    rfl
  refine pure_ (i := 13) (N := (some 35)) (v := ?_) (a' := ?_) #[true, true, true, true, true, true, true, true, true, true, true, true, true, true, false, false, false, false, false, false, false, false, false, false, false, false, false, false, false, false] rfl rfl (any_of HT_.out (by kernel_rfl)) (fun _ _ _ h => h) (Or.inl ⟨by rfl, ?_⟩) ?_ ?_
  rotate_left
  · intro w'
    go_simp
    with_reducible rfl
  rotate_left
  · simp only [Act.put, List.setIfInBounds_toArray, List.set_cons_zero, List.set_cons_succ]
    rfl
  refine take_ (i := 14) (N := (some 36)) (v := ?_) (a' := ?_) #[true, true, true, true, true, true, true, true, true, true, true, true, true, true, true, false, false, false, false, false, false, false, false, false, false, false, false, false, false, false] rfl rfl (take_of HT_.out (by kernel_rfl)) (fun _ _ _ h => h) (Or.inl ⟨by rfl, ?_⟩) hHeld ?_ ?_
  rotate_left
  · intro w' hw'
    have k9 := hw'.h
    go_simp
    with_reducible rfl
  rotate_left
  · simp only [Act.put, List.setIfInBounds_toArray, List.set_cons_zero, List.set_cons_succ]
    rfl
  refine pure_ (i := 15) (N := (some 37)) (v := ?_) (a' := ?_) #[true, true, true, true, true, true, true, true, true, true, true, true, true, true, true, true, false, false, false, false, false, false, false, false, false, false, false, false, false, false] rfl rfl (any_of HT_.out (by kernel_rfl)) (fun _ _ _ h => h) (Or.inl ⟨by rfl, ?_⟩) ?_ ?_
  rotate_left
  · intro w'
    go_simp
    with_reducible rfl
  rotate_left
  · simp only [Act.put, List.setIfInBounds_toArray, List.set_cons_zero, List.set_cons_succ]
    rfl
  refine pure_ (i := 16) (N := (some 38)) (v := ?_) (a' := ?_) #[true, true, true, true, true, true, true, true, true, true, true, true, true, true, true, true, true, false, false, false, false, false, false, false, false, false, false, false, false, false] rfl rfl (any_of HT_.out (by kernel_rfl)) (fun _ _ _ h => h) (Or.inl ⟨by rfl, ?_⟩) ?_ ?_
  rotate_left
  · intro w'
    go_simp
    with_reducible rfl
  rotate_left
  · simp only [Act.put, List.setIfInBounds_toArray, List.set_cons_zero, List.set_cons_succ]
    rfl
  refine pure_ (i := 17) (N := (some 39)) (v := ?_) (a' := ?_) #[true, true, true, true, true, true, true, true, true, true, true, true, true, true, true, true, true, true, false, false, false, false, false, false, false, false, false, false, false, false] rfl rfl (any_of HT_.out (by kernel_rfl)) (fun _ _ _ h => h) (Or.inl ⟨by rfl, ?_⟩) ?_ ?_
  rotate_left
  · intro w'
    go_simp
    with_reducible rfl
  rotate_left
  · simp only [Act.put, List.setIfInBounds_toArray, List.set_cons_zero, List.set_cons_succ]
    rfl
  refine take_ (i := 18) (N := (some 40)) (v := ?_) (a' := ?_) #[true, true, true, true, true, true, true, true, true, true, true, true, true, true, true, true, true, true, true, false, false, false, false, false, false, false, false, false, false, false] rfl rfl (take_of HT_.out (by kernel_rfl)) (fun _ _ _ h => h) (Or.inl ⟨by rfl, ?_⟩) hHeld ?_ ?_
  rotate_left
  · intro w' hw'
    have k9 := hw'.c
    go_simp
    with_reducible rfl
  rotate_left
  · simp only [Act.put, List.setIfInBounds_toArray, List.set_cons_zero, List.set_cons_succ]
    rfl
  refine pure_ (i := 19) (N := (some 41)) (v := ?_) (a' := ?_) #[true, true, true, true, true, true, true, true, true, true, true, true, true, true, true, true, true, true, true, true, false, false, false, false, false, false, false, false, false, false] rfl rfl (any_of HT_.out (by kernel_rfl)) (fun _ _ _ h => h) (Or.inl ⟨by rfl, ?_⟩) ?_ ?_
  rotate_left
  · intro w'
    go_simp
    with_reducible rfl
  rotate_left
  · simp only [Act.put, List.setIfInBounds_toArray, List.set_cons_zero, List.set_cons_succ]
    rfl
  refine pure_ (i := 20) (N := (some 42)) (v := .agg S.cfg) #[true, true, true, true, true, true, true, true, true, true, true, true, true, true, true, true, true, true, true, true, true, false, false, false, false, false, false, false, false, false] rfl rfl (any_of HT_.out (by kernel_rfl)) (fun _ _ _ h => h) (Or.inl ⟨by rfl, fun w' => ex_build (b48_sup S) rfl rfl⟩) rfl ?_
  refine norm_ (a' := ?_) ?_ ?_
  rotate_left
  · show Act.put _ (some 42) _ = _
    simp only [Act.put, List.setIfInBounds_toArray, List.set_cons_zero, List.set_cons_succ]
    rfl
  refine pure_ (i := 21) (N := (some 43)) (v := ?_) (a' := ?_) #[true, true, true, true, true, true, true, true, true, true, true, true, true, true, true, true, true, true, true, true, true, true, false, false, false, false, false, false, false, false] rfl rfl (any_of HT_.out (by kernel_rfl)) (fun _ _ _ h => h) (Or.inl ⟨by rfl, ?_⟩) ?_ ?_
  rotate_left
  · intro w'
    go_simp
    with_reducible rfl
  rotate_left
  · simp only [Act.put, List.setIfInBounds_toArray, List.set_cons_zero, List.set_cons_succ]
    rfl
  refine pure_ (i := 22) (N := (some 44)) (v := ?_) (a' := ?_) #[true, true, true, true, true, true, true, true, true, true, true, true, true, true, true, true, true, true, true, true, true, true, true, false, false, false, false, false, false, false] rfl rfl (any_of HT_.out (by kernel_rfl)) (fun _ _ _ h => h) (Or.inl ⟨by rfl, ?_⟩) ?_ ?_
  rotate_left
  · intro w'
    go_simp
    with_reducible rfl
  rotate_left
  · simp only [Act.put, List.setIfInBounds_toArray, List.set_cons_zero, List.set_cons_succ]
    rfl
  refine take_ (i := 23) (N := (some 45)) (v := ?_) (a' := ?_) #[true, true, true, true, true, true, true, true, true, true, true, true, true, true, true, true, true, true, true, true, true, true, true, true, false, false, false, false, false, false] rfl rfl (take_of HT_.out (by kernel_rfl)) (fun _ _ _ h => h) (Or.inl ⟨by rfl, ?_⟩) hHeld ?_ ?_
  rotate_left
  · intro w' hw'
    have k9 := hw'.t
    go_simp
    with_reducible rfl
  rotate_left
  · simp only [Act.put, List.setIfInBounds_toArray, List.set_cons_zero, List.set_cons_succ]
    rfl
  refine pure_ (i := 24) (N := (some 46)) (v := ?_) (a' := ?_) #[true, true, true, true, true, true, true, true, true, true, true, true, true, true, true, true, true, true, true, true, true, true, true, true, true, false, false, false, false, false] rfl rfl (any_of HT_.out (by kernel_rfl)) (fun _ _ _ h => h) (Or.inl ⟨by rfl, ?_⟩) ?_ ?_
  rotate_left
  · intro w'
    go_simp
    with_reducible rfl
  rotate_left
  · simp only [Act.put, List.setIfInBounds_toArray, List.set_cons_zero, List.set_cons_succ]
    rfl
  refine pure_ (i := 25) (N := (some 47)) (v := ?_) (a' := ?_) #[true, true, true, true, true, true, true, true, true, true, true, true, true, true, true, true, true, true, true, true, true, true, true, true, true, true, false, false, false, false] rfl rfl (any_of HT_.out (by kernel_rfl)) (fun _ _ _ h => h) (Or.inl ⟨by rfl, ?_⟩) ?_ ?_
  rotate_left
  · intro w'
    go_simp
    with_reducible rfl
  rotate_left
  · simp only [Act.put, List.setIfInBounds_toArray, List.set_cons_zero, List.set_cons_succ]
    rfl
  refine take_ (i := 26) (N := (some 48)) (v := ?_) (a' := ?_) #[true, true, true, true, true, true, true, true, true, true, true, true, true, true, true, true, true, true, true, true, true, true, true, true, true, true, true, false, false, false] rfl rfl (take_of HT_.out (by kernel_rfl)) (fun _ _ _ h => h) (Or.inl ⟨by rfl, ?_⟩) hHeld ?_ ?_
  rotate_left
  · intro w' hw'
    have k9 := hw'.f
    go_simp
    with_reducible rfl
  rotate_left
  · simp only [Act.put, List.setIfInBounds_toArray, List.set_cons_zero, List.set_cons_succ]
    rfl
  refine pure_ (i := 27) (N := (some 49)) (v := .agg S.cells) #[true, true, true, true, true, true, true, true, true, true, true, true, true, true, true, true, true, true, true, true, true, true, true, true, true, true, true, true, false, false] rfl rfl (any_of HT_.out (by kernel_rfl)) (fun _ _ _ h => h) (Or.inl ⟨by rfl, fun w' => ex_build (b54_sup S) rfl rfl⟩) rfl ?_
  refine norm_ (a' := ?_) ?_ ?_
  rotate_left
  · show Act.put _ (some 49) _ = _
    simp only [Act.put, List.setIfInBounds_toArray, List.set_cons_zero, List.set_cons_succ]
    rfl
  refine one_ (i := 28) (N := (some 7)) #[true, true, true, true, true, true, true, true, true, true, true, true, true, true, true, true, true, true, true, true, true, true, true, true, true, true, true, true, true, false] rfl rfl (one_of HT_.out (by kernel_rfl)) (by decide) (fun K hK => ?_)
  have hs3 := hHeld
  have HA0 := SAt.new 54 w3d Sup.zero
  refine value_ (by rfl) rfl (ex_alloc (run_alloc54 _) rfl) ?_
  refine hK.out _ _ (hHeld.below (below_alloc (Below.refl _ _) _)) (fun hHeld => ?_)
  clear hK K
  refine norm_ (a' := ?_) ?_ ?_
  rotate_left
  · show Act.put _ (some 7) _ = _
    simp only [Act.put, List.setIfInBounds_toArray, List.set_cons_zero, List.set_cons_succ]
    rfl
  refine one_ (i := 29) (N := none) #[true, true, true, true, true, true, true, true, true, true, true, true, true, true, true, true, true, true, true, true, true, true, true, true, true, true, true, true, true, true] rfl rfl (one_of HT_.out (by kernel_rfl)) (by decide) (fun K hK => ?_)
  have HA4 := Lib.hid (HA0.set (s := S))
  have hb4 := Below.setRow' (below_alloc (Below.refl w3d.heap.size w3d) (.cells Sup.zero.cells 54)) (Nat.le_refl _) S.cells
  have HB4 := Lib.hid (below_then HB3d.out hb4)
  have HZ4 := Lib.hid (HZ3d.out.below hb4)
  have Hv4 := Lib.hid (Hv3d.out.below hb4)
  refine skip_ (by rfl) rfl (ex_store (HA0.store54 (s := S)) rfl rfl rfl) ?_
  refine hK.out _ _ (hs3.below hb4) (fun hHeld => ?_)
  clear hK K hHeld hs3 HB3d HZ3d Hv3d HA0 hb4
  refine done_ (done_of HT_.out (by kernel_rfl)) ?_
  clear HT_ HW_
  generalize hg7 : w3d.heap.size = g7 at HA4 HB4 HZ4 Hv4 ⊢
  generalize (w3d.alloc (.cells Sup.zero.cells 54)).setRow g7 S.cells = w4 at HA4 HB4 HZ4 Hv4 ⊢
  clear hg7
  have Ht4 := Lib.hid (Ht.out.below HB4.out)
  have Hw4 := Lib.hid (Hw.out.below HB4.out)
  have HSo := Lib.hid hSo
  clear hSo wb wl wm wh wc b1 b2 l1 l2 m1 m2 x1 x2 c1 c2
  go_wp2_with (first
    | (refine go_value (o := ⟨some 51, _, _, _, _, _⟩) (by rfl) (ex_load HA4.out.load54 rfl rfl) ?_)
    | fail)
  refine (sencode_any S _ HSo.out Ht4.out Hw4.out).mono ?_
  by_cases hok : SupOk S
  · have hev : encS S = enc7 S := if_pos hok
    rw [supE_ok hok, hev]
    rintro e w5 ⟨v5, rfl, ho5, hb5⟩
    obtain ⟨g5, c5, rfl, -, -, -, -⟩ := ho5.form (by rw [enc7_length]; omega)
    rw [enc7_length] at ho5 ⊢
    have HA5 := Lib.hid (HA4.out.below hb5)
    have HB5 := Lib.hid (below_then HB4.out hb5)
    have HZ5 := Lib.hid (HZ4.out.below hb5)
    have Hv5 := Lib.hid (Hv4.out.below hb5)
    have Ho5 := Lib.hid ho5.reads
    clear hb5 ho5 HA4 HB4 HZ4 Hv4
    by_cases heq : enc7 S = b
    · have hd : sdecOk b := HD.out.2 ⟨hok, heq⟩
      have HE : Hid (sdecE b = 0) := Lib.hid (by rw [sdecE, if_pos hl, if_pos hd])
      have HV : Hid (sdecV b = S) := Lib.hid (HDV.out hd)
      have Heq := Lib.hid heq
      clear hd heq hok hev
      go_wp2_with (first
        | (refine go_value (o := ⟨some 64, _, _, _, _, _⟩) (by rfl) (ex_load HA5.out.load54 rfl rfl) ?_)
        | (go_at_call 66; refine (equal_yes _ _ (enc7 S) b _ Ho5.out Hv5.out Heq.out).mono ?_; rintro e w' ⟨rfl, rfl⟩)
        | (refine go_skip (o := ⟨none, .store 54 _ _, _, _, _, _⟩) (by rfl) (ex_store (HZ5.out.store54 (s := S)) rfl rfl rfl) ?_))
      refine bodyPost_ret_by (results_cell_tmp (p := 2) (q := 3) (ty := 54) (by kernel_rfl) _ _ w.heap.size S.cells (.int .i64 0) ((HZ5.out.set (s := S)).load54) rfl rfl) rfl ⟨by rw [HE.out, HV.out], Below.setRow' HB5.out (Nat.le_refl _) _⟩
    · have hd : ¬ sdecOk b := fun h => heq (HD.out.1 h).2
      have HE : Hid (sdecE b = 70) := Lib.hid (by rw [sdecE, if_pos hl, if_neg hd])
      have HV : Hid (sdecV b = Sup.zero) := Lib.hid (if_neg hd)
      have Heq := Lib.hid heq
      clear hd heq hok hev
      go_wp2_with (first
        | (refine go_value (o := ⟨some 63, _, _, _, _, _⟩) (by rfl) (ex_build b54_none rfl rfl) ?_)
        | (go_at_call 66; refine (equal_no _ _ (enc7 S) b _ Ho5.out Hv5.out Heq.out).mono ?_; rintro e w' ⟨rfl, rfl⟩)
        | (refine go_skip (o := ⟨none, .store 54 _ _, _, _, _, _⟩) (by rfl) (ex_store (HZ5.out.store54 (s := Sup.zero)) rfl rfl rfl) ?_))
      refine bodyPost_ret_by (results_cell_tmp (p := 2) (q := 3) (ty := 54) (by kernel_rfl) _ _ w.heap.size Sup.zero.cells (.int .i64 70) ((HZ5.out.set (s := Sup.zero)).load54) rfl rfl) rfl ⟨by rw [HE.out, HV.out], Below.setRow' HB5.out (Nat.le_refl _) _⟩
  · have hd : ¬ sdecOk b := fun h => hok (HD.out.1 h).1
    have HE : Hid (sdecE b = 70) := Lib.hid (by rw [sdecE, if_pos hl, if_neg hd])
    have HV : Hid (sdecV b = Sup.zero) := Lib.hid (if_neg hd)
    have hne := supE_no hok
    generalize supE S = ex at hne ⊢
    have hne2 : (ex == 0) = false := by simpa using hne
    have hne3 : (ex != 0) = true := by simpa using hne
    rintro e w5 ⟨v5, rfl, ho5, hb5⟩
    have HB5 := Lib.hid (below_then HB4.out hb5)
    have HZ5 := Lib.hid (HZ4.out.below hb5)
    clear hb5 ho5 HA4 HB4 HZ4 Hv4 hd hok
    go_wp2_with (first
      | (refine go_value (o := ⟨some 63, _, _, _, _, _⟩) (by rfl) (ex_build b54_none rfl rfl) ?_)
      | (refine go_skip (o := ⟨none, .store 54 _ _, _, _, _, _⟩) (by rfl) (ex_store (HZ5.out.store54 (s := Sup.zero)) rfl rfl rfl) ?_))
    refine bodyPost_ret_by (results_cell_tmp (p := 2) (q := 3) (ty := 54) (by kernel_rfl) _ _ w.heap.size Sup.zero.cells (.int .i64 70) ((HZ5.out.set (s := Sup.zero)).load54) rfl rfl) rfl ⟨by rw [HE.out, HV.out], Below.setRow' HB5.out (Nat.le_refl _) _⟩
theorem sdec_any (v : Value) (b : List Int) (w : World) (hv : RBy w v b) (ht : Tab w) (hw : Wid w) :
    Calls Tryd.prog 35 #[v] w fun e w' => e = .returned (.tuple #[.agg (sdecV b).cells, .int .i64 (sdecE b)]) ∧ Below w.heap.size w w' := by
  by_cases hl : b.length = 64
  · exact sdec_any64 v b w hv hl ht hw
  · exact sdec_len v b w hv hl
end Go.Proofs.YtblfmofhfbbmdaaDoor
