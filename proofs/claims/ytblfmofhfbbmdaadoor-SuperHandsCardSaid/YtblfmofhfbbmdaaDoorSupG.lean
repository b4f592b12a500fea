/- The reference's Decode of a superblock. -/
import Derived.Test.YtblfmofhfbbmdaaDoorSupF
set_option linter.unusedVariables false
set_option linter.unusedSimpArgs false
namespace Go.Proofs.YtblfmofhfbbmdaaDoor
open Go.RowKit Crc Go.Proofs.YtblfmofhfbbmdaaDoorW.PrintWords Go.Proofs.YtblfmofhfbbmdaaDoorW.PrintLast

structure S52 (ad : Addr) (c : Nat) (b : List Int) (s : Sup) (w : World) : Prop where
  xb : w.cell? ⟨ad.block, ad.off + 8, none⟩ = some (.int .u8 s.b)
  xl : w.cell? ⟨ad.block, ad.off + 9, none⟩ = some (.int .u8 s.l)
  xm : w.cell? ⟨ad.block, ad.off + 10, none⟩ = some (.int .u8 s.m)
  xh : w.cell? ⟨ad.block, ad.off + 11, none⟩ = some (.int .u8 s.h)
  xc : w.cell? ⟨ad.block, ad.off + 12, none⟩ = some (.int .u8 s.c)
  v : RBy w (.slice (some ad) 64 c) b
theorem S52.below {ad : Addr} {c : Nat} {b : List Int} {s : Sup} {w w' : World} (h : S52 ad c b s w) (hb : Below w.heap.size w w') : S52 ad c b s w' :=
  ⟨keep_cell hb (Nat.le_refl _) h.xb, keep_cell hb (Nat.le_refl _) h.xl, keep_cell hb (Nat.le_refl _) h.xm, keep_cell hb (Nat.le_refl _) h.xh, keep_cell hb (Nat.le_refl _) h.xc, h.v.below hb⟩
def T52_3 : Bool × List (List Nat × List Nat) := (true, [([], []), ([0], [0]), ([1], [1]), ([2], [2]), ([], []), ([4], [4]), ([5], [5]), ([6], [6]), ([], []), ([8], [8]), ([9], [9]), ([10], [10]), ([], []), ([12], [12]), ([13], [13]), ([14], [14]), ([], []), ([16], [16]), ([17], [17]), ([18], [18]), ([3, 7, 11, 15, 19], [3, 7, 11, 15, 19]), ([], []), ([21], [21]), ([22], [22]), ([], []), ([24], [24]), ([25, 23], [25]), ([20, 23, 26], [20, 23, 26]), ([], []), ([28, 27, 26, 0, 1, 2, 3, 4, 5, 6, 7, 8, 9, 10, 11, 12, 13, 14, 15, 16, 17, 18, 19, 20, 21, 22, 23, 24, 25, 26, 27, 28], [27, 28])])
def B52_3 : List Nat := [0, 1, 3, 7, 0, 16, 48, 112, 0, 256, 768, 1792, 0, 4096, 12288, 28672, 0, 65536, 196608, 458752, 1048575, 0, 2097152, 6291456, 0, 16777216, 65011712, 134217727, 0, 536870911]
theorem tab52_3 : rtab .any (opsOf Tryd.f52 3) = T52_3 := by kernel_rfl
theorem bits52_3 : waitsOk T52_3.2 B52_3 = true := by kernel_rfl
set_option maxRecDepth 100000 in
set_option maxHeartbeats 4000000 in
theorem rsdec_len (v : Value) (b : List Int) (w : World) (hv : RBy w v b) (hl : b.length ≠ 64) :
    Calls Tryd.prog 52 #[v] w fun e w' => e = .returned (.tuple #[.agg (sdecV b).cells, .int .i64 (sdecE b)]) ∧ Below w.heap.size w w' := by
  rw [(sdecE_len hl).1, (sdecE_len hl).2]
  obtain ⟨A, c, rfl, -⟩ := hv.form
  have hne : ((b.length : Int) != 64) = true := by simp; omega
  have HZ := Lib.hid (SAt.new 51 w Sup.zero)
  clear hl hv
  go_enter Tryd.func52, Tryd.ntmps52
  go_wp2_with (first
    | (refine go_value (o := ⟨some 2, _, _, _, _, _⟩) (by rfl) (ex_alloc (run_alloc51 _) rfl) ?_)
    | (refine go_value (o := ⟨some 10, _, _, _, _, _⟩) (by rfl) (ex_build b51_none rfl rfl) ?_)
    | (refine go_skip (o := ⟨none, .store 51 _ _, _, _, _, _⟩) (by rfl) (ex_store (HZ.out.store51 (s := Sup.zero)) rfl rfl rfl) ?_))
  refine bodyPost_ret_by (results_cell_tmp (p := 2) (q := 3) (ty := 51) (by kernel_rfl) _ _ w.heap.size Sup.zero.cells (.int .i64 2) ((HZ.out.set (s := Sup.zero)).load51) rfl rfl) rfl ⟨rfl, Below.setRow' (below_alloc (Below.refl _ _) _) (Nat.le_refl _) _⟩
set_option maxRecDepth 100000 in
set_option maxHeartbeats 8000000 in
theorem rsdec_any64 (v : Value) (b : List Int) (w : World) (hv : RBy w v b) (hl : b.length = 64) :
    Calls Tryd.prog 52 #[v] w fun e w' => e = .returned (.tuple #[.agg (sdecV b).cells, .int .i64 (sdecE b)]) ∧ Below w.heap.size w w' := by
  obtain ⟨A, c, rfl, hc, hn, hb, hA, hcell⟩ := id hv
  obtain ⟨ad, rfl, hcs⟩ := hcell (by omega)
  rw [hl] at hv hc ⊢
  have HZ := Lib.hid (SAt.new 51 w Sup.zero)
  have Hv := Lib.hid hv
  have Hb : Hid (IsB b) := Lib.hid hb
  have hb0 := Lib.hid (below_alloc (Below.refl w.heap.size w) (.cells Sup.zero.cells 51))
  have hc16 : c ≠ 16 := by omega
  have hc24 : c ≠ 24 := by omega
  have hc24b : (24 : Int) ≤ (c : Int) := by omega
  have hc32b : (32 : Int) ≤ (c : Int) := by omega
  have add16 : ad.add 16 = ⟨ad.block, ad.off + 16, none⟩ := by simp [Addr.add]
  have add24 : ad.add 24 = ⟨ad.block, ad.off + 24, none⟩ := by simp [Addr.add]
  have hSb : (0 ≤ (sdecR b).b ∧ (sdecR b).b < 256) ∧ (0 ≤ (sdecR b).l ∧ (sdecR b).l < 256) ∧ (0 ≤ (sdecR b).m ∧ (sdecR b).m < 256) ∧ (0 ≤ (sdecR b).h ∧ (sdecR b).h < 256) ∧ (0 ≤ (sdecR b).c ∧ (sdecR b).c < 256) := ⟨isB_at Hb.out 8, isB_at Hb.out 9, isB_at Hb.out 10, isB_at Hb.out 11, isB_at Hb.out 12⟩
  have hS1 : S52 ad c b (sdecR b) w := by
    have e : ∀ k : Nat, 0 < k → k < 64 → w.cell? ⟨ad.block, ad.off + k, none⟩ = some (.int .u8 (b[k]?.getD 0)) := fun k hp hk => by
      have h := hv.at k (by omega)
      rwa [show ad.add k = ⟨ad.block, ad.off + k, none⟩ by rw [Addr.add, if_neg (by omega)]] at h
    exact ⟨e 8 (by omega) (by omega), e 9 (by omega) (by omega), e 10 (by omega) (by omega), e 11 (by omega) (by omega), e 12 (by omega) (by omega), hv⟩
  have hSo := sdecR_ok b Hb.out
  have HD : Hid (sdecOk b ↔ SupOk (sdecR b) ∧ enc7 (sdecR b) = b) := Lib.hid ⟨fun h => h.2, fun h => ⟨hl, h⟩⟩
  have HDV : Hid (sdecOk b → sdecV b = sdecR b) := Lib.hid fun h => if_pos h
  have Ht : Hid (numU ((b.drop 16).take 8) = (sdecR b).t) := Lib.hid rfl
  have Hf : Hid (numU ((b.drop 24).take 8) = (sdecR b).f) := Lib.hid rfl
  obtain ⟨S, hS⟩ : ∃ S, sdecR b = S := ⟨_, rfl⟩
  rw [hS] at hS1 hSo hSb HD HDV Ht Hf
  obtain ⟨⟨b1, b2⟩, ⟨l1, l2⟩, ⟨m1, m2⟩, ⟨x1, x2⟩, ⟨c1, c2⟩⟩ := hSb
  have qb : IntKind.i64.wrap S.b = S.b := by rw [IntKind.wrap_i64]; omega
  have ql : IntKind.i64.wrap S.l = S.l := by rw [IntKind.wrap_i64]; omega
  have qm : IntKind.i64.wrap S.m = S.m := by rw [IntKind.wrap_i64]; omega
  have qh : IntKind.i64.wrap S.h = S.h := by rw [IntKind.wrap_i64]; omega
  have qc : IntKind.i64.wrap S.c = S.c := by rw [IntKind.wrap_i64]; omega
  have HS1 := Lib.hid hS1
  have HSo := Lib.hid hSo
  clear hv hcell hb hcs hA hn hS hS1 hSo
  go_enter Tryd.func52, Tryd.ntmps52
  obtain ⟨w1, hw1⟩ : ∃ w1, w.alloc (.cells Sup.zero.cells 51) = w1 := ⟨_, rfl⟩
  have hne : ((64 : Int) != 64) = false := by decide
  go_upto_region 3 with (first
    | (refine go_value (o := ⟨some 2, _, _, _, _, _⟩) (by rfl) (ex_alloc (run_alloc51 _) rfl) ?_)
    | fail)
  rw [hw1] at HZ hb0
  clear hw1
  have hS0 : S52 ad c b S w1.drew := (HS1.out.below hb0.out).below (below_drew (Below.refl _ _))
  have HB1d := Lib.hid (below_drew hb0.out)
  have HZ1d := Lib.hid (HZ.out.below (below_drew (Below.refl _ _)))
  have Hv1d := Lib.hid (Hv.out.below HB1d.out)
  clear hb0 HZ hne HS1
  obtain ⟨w1d, hw1d⟩ : ∃ w1d, w1.drew = w1d := ⟨_, rfl⟩
  go_cut [4] from 5 (fun s4 wx => ∃ g, s4 = .pointer (some ⟨g, 0, none⟩) ∧ w1d.heap.size ≤ g ∧ Hid (SAt 51 wx g S) ∧ Hid (Below w1d.heap.size w1d wx))
  case first =>
    refine start_ (n := 30) (S := S52 ad c b S) (ds := []) #[false, false, false, false, false, false, false, false, false, false, false, false, false, false, false, false, false, false, false, false, false, false, false, false, false, false, false, false, false, false] (by kernel_rfl) rfl rfl (hS0) (fun hHeld => ?_); refine with_tabW tab52_3 bits52_3 (fun HT_ HW_ => ?_)
    clear hS0
    rw [hw1d] at HB1d HZ1d Hv1d hHeld ⊢
    refine pure_ (i := 0) (N := (some 11)) (v := ?_) (a' := ?_) #[true, false, false, false, false, false, false, false, false, false, false, false, false, false, false, false, false, false, false, false, false, false, false, false, false, false, false, false, false, false] rfl rfl (any_of HT_.out (by kernel_rfl)) (fun _ _ _ h => h) (Or.inl ⟨by rfl, ?_⟩) ?_ ?_
    rotate_left
    · intro w'
      go_simp
      with_reducible rfl
    rotate_left
    · simp only [Act.put, List.setIfInBounds_toArray, List.set_cons_zero, List.set_cons_succ]
      rfl
    refine pure_ (i := 1) (N := (some 12)) (v := ?_) (a' := ?_) #[true, true, false, false, false, false, false, false, false, false, false, false, false, false, false, false, false, false, false, false, false, false, false, false, false, false, false, false, false, false] rfl rfl (any_of HT_.out (by kernel_rfl)) (fun _ _ _ h => h) (Or.inl ⟨by rfl, ?_⟩) ?_ ?_
    rotate_left
    · intro w'
      go_simp
      with_reducible rfl
    rotate_left
    · simp only [Act.put, List.setIfInBounds_toArray, List.set_cons_zero, List.set_cons_succ]
      rfl
    refine take_ (i := 2) (N := (some 13)) (v := ?_) (a' := ?_) #[true, true, true, false, false, false, false, false, false, false, false, false, false, false, false, false, false, false, false, false, false, false, false, false, false, false, false, false, false, false] rfl rfl (take_of HT_.out (by kernel_rfl)) (fun _ _ _ h => h) (Or.inl ⟨by rfl, ?_⟩) hHeld ?_ ?_
    rotate_left
    · intro w' hw'
      have k9 := hw'.xb
      go_simp
      with_reducible rfl
    rotate_left
    · simp only [Act.put, List.setIfInBounds_toArray, List.set_cons_zero, List.set_cons_succ]
      rfl
    refine pure_ (i := 3) (N := (some 14)) (v := ?_) (a' := ?_) #[true, true, true, true, false, false, false, false, false, false, false, false, false, false, false, false, false, false, false, false, false, false, false, false, false, false, false, false, false, false] rfl rfl (any_of HT_.out (by kernel_rfl)) (fun _ _ _ h => h) (Or.inl ⟨by rfl, ?_⟩) ?_ ?_
    rotate_left
    · intro w'
      go_simp
      with_reducible rfl
    rotate_left
    · simp only [Act.put, List.setIfInBounds_toArray, List.set_cons_zero, List.set_cons_succ]
      rfl
    refine pure_ (i := 4) (N := (some 15)) (v := ?_) (a' := ?_) #[true, true, true, true, true, false, false, false, false, false, false, false, false, false, false, false, false, false, false, false, false, false, false, false, false, false, false, false, false, false] rfl rfl (any_of HT_.out (by kernel_rfl)) (fun _ _ _ h => h) (Or.inl ⟨by rfl, ?_⟩) ?_ ?_
    rotate_left
    · intro w'
      go_simp
      with_reducible rfl
    rotate_left
    · simp only [Act.put, List.setIfInBounds_toArray, List.set_cons_zero, List.set_cons_succ]
      rfl
    refine pure_ (i := 5) (N := (some 16)) (v := ?_) (a' := ?_) #[true, true, true, true, true, true, false, false, false, false, false, false, false, false, false, false, false, false, false, false, false, false, false, false, false, false, false, false, false, false] rfl rfl (any_of HT_.out (by kernel_rfl)) (fun _ _ _ h => h) (Or.inl ⟨by rfl, ?_⟩) ?_ ?_
    rotate_left
    · intro w'
      go_simp
      with_reducible rfl
    rotate_left
    · simp only [Act.put, List.setIfInBounds_toArray, List.set_cons_zero, List.set_cons_succ]
      rfl
    refine take_ (i := 6) (N := (some 17)) (v := ?_) (a' := ?_) #[true, true, true, true, true, true, true, false, false, false, false, false, false, false, false, false, false, false, false, false, false, false, false, false, false, false, false, false, false, false] rfl rfl (take_of HT_.out (by kernel_rfl)) (fun _ _ _ h => h) (Or.inl ⟨by rfl, ?_⟩) hHeld ?_ ?_
    rotate_left
    · intro w' hw'
      have k9 := hw'.xl
      go_simp
      with_reducible rfl
    rotate_left
    · simp only [Act.put, List.setIfInBounds_toArray, List.set_cons_zero, List.set_cons_succ]
      rfl
    refine pure_ (i := 7) (N := (some 18)) (v := ?_) (a' := ?_) #[true, true, true, true, true, true, true, true, false, false, false, false, false, false, false, false, false, false, false, false, false, false, false, false, false, false, false, false, false, false] rfl rfl (any_of HT_.out (by kernel_rfl)) (fun _ _ _ h => h) (Or.inl ⟨by rfl, ?_⟩) ?_ ?_
    rotate_left
    · intro w'
      go_simp
      with_reducible rfl
    rotate_left
    · simp only [Act.put, List.setIfInBounds_toArray, List.set_cons_zero, List.set_cons_succ]
      rfl
    refine pure_ (i := 8) (N := (some 19)) (v := ?_) (a' := ?_) #[true, true, true, true, true, true, true, true, true, false, false, false, false, false, false, false, false, false, false, false, false, false, false, false, false, false, false, false, false, false] rfl rfl (any_of HT_.out (by kernel_rfl)) (fun _ _ _ h => h) (Or.inl ⟨by rfl, ?_⟩) ?_ ?_
    rotate_left
    · intro w'
      go_simp
      with_reducible rfl
    rotate_left
    · simp only [Act.put, List.setIfInBounds_toArray, List.set_cons_zero, List.set_cons_succ]
      rfl
    refine pure_ (i := 9) (N := (some 20)) (v := ?_) (a' := ?_) #[true, true, true, true, true, true, true, true, true, true, false, false, false, false, false, false, false, false, false, false, false, false, false, false, false, false, false, false, false, false] rfl rfl (any_of HT_.out (by kernel_rfl)) (fun _ _ _ h => h) (Or.inl ⟨by rfl, ?_⟩) ?_ ?_
    rotate_left
    · intro w'
      go_simp
      with_reducible rfl
    rotate_left
    · simp only [Act.put, List.setIfInBounds_toArray, List.set_cons_zero, List.set_cons_succ]
      rfl
    refine take_ (i := 10) (N := (some 21)) (v := ?_) (a' := ?_) #[true, true, true, true, true, true, true, true, true, true, true, false, false, false, false, false, false, false, false, false, false, false, false, false, false, false, false, false, false, false] rfl rfl (take_of HT_.out (by kernel_rfl)) (fun _ _ _ h => h) (Or.inl ⟨by rfl, ?_⟩) hHeld ?_ ?_
    rotate_left
    · intro w' hw'
      have k9 := hw'.xm
      go_simp
      with_reducible rfl
    rotate_left
    · simp only [Act.put, List.setIfInBounds_toArray, List.set_cons_zero, List.set_cons_succ]
      rfl
    refine pure_ (i := 11) (N := (some 22)) (v := ?_) (a' := ?_) #[true, true, true, true, true, true, true, true, true, true, true, true, false, false, false, false, false, false, false, false, false, false, false, false, false, false, false, false, false, false] rfl rfl (any_of HT_.out (by kernel_rfl)) (fun _ _ _ h => h) (Or.inl ⟨by rfl, ?_⟩) ?_ ?_
    rotate_left
    · intro w'
      go_simp
      with_reducible rfl
    rotate_left
    · simp only [Act.put, List.setIfInBounds_toArray, List.set_cons_zero, List.set_cons_succ]
      rfl
    refine pure_ (i := 12) (N := (some 23)) (v := ?_) (a' := ?_) #[true, true, true, true, true, true, true, true, true, true, true, true, true, false, false, false, false, false, false, false, false, false, false, false, false, false, false, false, false, false] rfl rfl (any_of HT_.out (by kernel_rfl)) (fun _ _ _ h => h) (Or.inl ⟨by rfl, ?_⟩) ?_ ?_
    rotate_left
    · intro w'
      go_simp
      with_reducible rfl
    rotate_left
    · simp only [Act.put, List.setIfInBounds_toArray, List.set_cons_zero, List.set_cons_succ]
      rfl
    refine pure_ (i := 13) (N := (some 24)) (v := ?_) (a' := ?_) #[true, true, true, true, true, true, true, true, true, true, true, true, true, true, false, false, false, false, false, false, false, false, false, false, false, false, false, false, false, false] rfl rfl (any_of HT_.out (by kernel_rfl)) (fun _ _ _ h => h) (Or.inl ⟨by rfl, ?_⟩) ?_ ?_
    rotate_left
    · intro w'
      go_simp
      with_reducible rfl
    rotate_left
    · simp only [Act.put, List.setIfInBounds_toArray, List.set_cons_zero, List.set_cons_succ]
      rfl
    refine take_ (i := 14) (N := (some 25)) (v := ?_) (a' := ?_) #[true, true, true, true, true, true, true, true, true, true, true, true, true, true, true, false, false, false, false, false, false, false, false, false, false, false, false, false, false, false] rfl rfl (take_of HT_.out (by kernel_rfl)) (fun _ _ _ h => h) (Or.inl ⟨by rfl, ?_⟩) hHeld ?_ ?_
    rotate_left
    · intro w' hw'
      have k9 := hw'.xh
      go_simp
      with_reducible rfl
    rotate_left
    · simp only [Act.put, List.setIfInBounds_toArray, List.set_cons_zero, List.set_cons_succ]
      rfl
    refine pure_ (i := 15) (N := (some 26)) (v := ?_) (a' := ?_) #[true, true, true, true, true, true, true, true, true, true, true, true, true, true, true, true, false, false, false, false, false, false, false, false, false, false, false, false, false, false] rfl rfl (any_of HT_.out (by kernel_rfl)) (fun _ _ _ h => h) (Or.inl ⟨by rfl, ?_⟩) ?_ ?_
    rotate_left
    · intro w'
      go_simp
      with_reducible rfl
    rotate_left
    · simp only [Act.put, List.setIfInBounds_toArray, List.set_cons_zero, List.set_cons_succ]
      rfl
    refine pure_ (i := 16) (N := (some 27)) (v := ?_) (a' := ?_) #[true, true, true, true, true, true, true, true, true, true, true, true, true, true, true, true, true, false, false, false, false, false, false, false, false, false, false, false, false, false] rfl rfl (any_of HT_.out (by kernel_rfl)) (fun _ _ _ h => h) (Or.inl ⟨by rfl, ?_⟩) ?_ ?_
    rotate_left
    · intro w'
      go_simp
      with_reducible rfl
    rotate_left
    · simp only [Act.put, List.setIfInBounds_toArray, List.set_cons_zero, List.set_cons_succ]
      rfl
    refine pure_ (i := 17) (N := (some 28)) (v := ?_) (a' := ?_) #[true, true, true, true, true, true, true, true, true, true, true, true, true, true, true, true, true, true, false, false, false, false, false, false, false, false, false, false, false, false] rfl rfl (any_of HT_.out (by kernel_rfl)) (fun _ _ _ h => h) (Or.inl ⟨by rfl, ?_⟩) ?_ ?_
    rotate_left
    · intro w'
      go_simp
      with_reducible rfl
    rotate_left
    · simp only [Act.put, List.setIfInBounds_toArray, List.set_cons_zero, List.set_cons_succ]
      rfl
    refine take_ (i := 18) (N := (some 29)) (v := ?_) (a' := ?_) #[true, true, true, true, true, true, true, true, true, true, true, true, true, true, true, true, true, true, true, false, false, false, false, false, false, false, false, false, false, false] rfl rfl (take_of HT_.out (by kernel_rfl)) (fun _ _ _ h => h) (Or.inl ⟨by rfl, ?_⟩) hHeld ?_ ?_
    rotate_left
    · intro w' hw'
      have k9 := hw'.xc
      go_simp
      with_reducible rfl
    rotate_left
    · simp only [Act.put, List.setIfInBounds_toArray, List.set_cons_zero, List.set_cons_succ]
      rfl
    refine pure_ (i := 19) (N := (some 30)) (v := ?_) (a' := ?_) #[true, true, true, true, true, true, true, true, true, true, true, true, true, true, true, true, true, true, true, true, false, false, false, false, false, false, false, false, false, false] rfl rfl (any_of HT_.out (by kernel_rfl)) (fun _ _ _ h => h) (Or.inl ⟨by rfl, ?_⟩) ?_ ?_
    rotate_left
    · intro w'
      go_simp
      with_reducible rfl
    rotate_left
    · simp only [Act.put, List.setIfInBounds_toArray, List.set_cons_zero, List.set_cons_succ]
      rfl
    refine pure_ (i := 20) (N := (some 31)) (v := .agg S.cfg) #[true, true, true, true, true, true, true, true, true, true, true, true, true, true, true, true, true, true, true, true, true, false, false, false, false, false, false, false, false, false] rfl rfl (any_of HT_.out (by kernel_rfl)) (fun _ _ _ h => h) (Or.inl ⟨by rfl, fun w' => ex_build (b48_sup S) rfl rfl⟩) rfl ?_
    refine norm_ (a' := ?_) ?_ ?_
    rotate_left
    · show Act.put _ (some 31) _ = _
      simp only [Act.put, List.setIfInBounds_toArray, List.set_cons_zero, List.set_cons_succ]
      rfl
    refine pure_ (i := 21) (N := (some 32)) (v := ?_) (a' := ?_) #[true, true, true, true, true, true, true, true, true, true, true, true, true, true, true, true, true, true, true, true, true, true, false, false, false, false, false, false, false, false] rfl rfl (any_of HT_.out (by kernel_rfl)) (fun _ _ _ h => h) (Or.inl ⟨by rfl, ?_⟩) ?_ ?_
    rotate_left
    · intro w'
      go_simp
      with_reducible rfl
    rotate_left
    · simp only [Act.put, List.setIfInBounds_toArray, List.set_cons_zero, List.set_cons_succ]
      rfl
    refine pure_ (i := 22) (N := (some 33)) (v := ?_) (a' := ?_) #[true, true, true, true, true, true, true, true, true, true, true, true, true, true, true, true, true, true, true, true, true, true, true, false, false, false, false, false, false, false] rfl rfl (any_of HT_.out (by kernel_rfl)) (fun _ _ _ h => h) (Or.inl ⟨by rfl, ?_⟩) ?_ ?_
    rotate_left
    · intro w'
      go_simp
      with_reducible rfl
    rotate_left
    · simp only [Act.put, List.setIfInBounds_toArray, List.set_cons_zero, List.set_cons_succ]
      rfl
    refine pure_ (i := 24) (N := (some 35)) (v := ?_) (a' := ?_) #[true, true, true, true, true, true, true, true, true, true, true, true, true, true, true, true, true, true, true, true, true, true, true, false, true, false, false, false, false, false] rfl rfl (any_of HT_.out (by kernel_rfl)) (fun _ _ _ h => h) (Or.inl ⟨by rfl, ?_⟩) ?_ ?_
    rotate_left
    · intro w'
      go_simp
      with_reducible rfl
    rotate_left
    · simp only [Act.put, List.setIfInBounds_toArray, List.set_cons_zero, List.set_cons_succ]
      rfl
    refine pure_ (i := 25) (N := (some 36)) (v := ?_) (a' := ?_) #[true, true, true, true, true, true, true, true, true, true, true, true, true, true, true, true, true, true, true, true, true, true, true, false, true, true, false, false, false, false] rfl rfl (any_of HT_.out (by kernel_rfl)) (fun _ _ _ h => h) (Or.inl ⟨by rfl, ?_⟩) ?_ ?_
    rotate_left
    · intro w'
      go_simp
      with_reducible rfl
    rotate_left
    · simp only [Act.put, List.setIfInBounds_toArray, List.set_cons_zero, List.set_cons_succ]
      rfl
    refine two_ (i := 23) (j := 28) (Ni := (some 34)) (Nj := (some 4)) #[true, true, true, true, true, true, true, true, true, true, true, true, true, true, true, true, true, true, true, true, true, true, true, true, true, true, false, false, false, false] #[true, true, true, true, true, true, true, true, true, true, true, true, true, true, true, true, true, true, true, true, true, true, true, false, true, true, false, false, true, false] rfl rfl rfl rfl (two_of HT_.out (by kernel_rfl)) (by decide) (by decide) (fun K hK => ?_) (fun K hK => ?_)
    · skip
      have hr := (hHeld.v.rest (s := 16) (by omega)).first (m := 8) (by simp; omega)
      rw [if_neg hc16, add16] at hr
      refine call_ 72 #[.slice (some ⟨ad.block, ad.off + 16, none⟩) 8 (c - 16)] (by rfl) rfl (by go_simp) ?_
      refine (eight_any _ _ _ hr (by simp; omega)).mono ?_
      rw [Ht.out]
      rintro e w' ⟨rfl, rfl⟩
      refine ⟨_, rfl, ?_⟩
      refine hK.out _ _ (hHeld) (fun hHeld => ?_)
      clear hK K
      refine norm_ (a' := ?_) ?_ ?_
      rotate_left
      · show Act.put _ (some 34) _ = _
        simp only [Act.put, List.setIfInBounds_toArray, List.set_cons_zero, List.set_cons_succ]
        rfl
      clear hr
      refine two_ (i := 26) (j := 28) (Ni := (some 37)) (Nj := (some 4)) #[true, true, true, true, true, true, true, true, true, true, true, true, true, true, true, true, true, true, true, true, true, true, true, true, true, true, true, false, false, false] #[true, true, true, true, true, true, true, true, true, true, true, true, true, true, true, true, true, true, true, true, true, true, true, true, true, true, false, false, true, false] rfl rfl rfl rfl (two_of HT_.out (by kernel_rfl)) (by decide) (by decide) (fun K hK => ?_) (fun K hK => ?_)
      · skip
        have hr := (hHeld.v.rest (s := 24) (by omega)).first (m := 8) (by simp; omega)
        rw [if_neg hc24, add24] at hr
        refine call_ 72 #[.slice (some ⟨ad.block, ad.off + 24, none⟩) 8 (c - 24)] (by rfl) rfl (by go_simp) ?_
        refine (eight_any _ _ _ hr (by simp; omega)).mono ?_
        rw [Hf.out]
        rintro e w' ⟨rfl, rfl⟩
        refine ⟨_, rfl, ?_⟩
        refine hK.out _ _ (hHeld) (fun hHeld => ?_)
        clear hK K
        refine norm_ (a' := ?_) ?_ ?_
        rotate_left
        · show Act.put _ (some 37) _ = _
          simp only [Act.put, List.setIfInBounds_toArray, List.set_cons_zero, List.set_cons_succ]
          rfl
        clear hr
        refine pure_ (i := 27) (N := (some 38)) (v := .agg S.cells) #[true, true, true, true, true, true, true, true, true, true, true, true, true, true, true, true, true, true, true, true, true, true, true, true, true, true, true, true, false, false] rfl rfl (any_of HT_.out (by kernel_rfl)) (fun _ _ _ h => h) (Or.inl ⟨by rfl, fun w' => ex_build (b51_sup S) rfl rfl⟩) rfl ?_
        refine norm_ (a' := ?_) ?_ ?_
        rotate_left
        · show Act.put _ (some 38) _ = _
          simp only [Act.put, List.setIfInBounds_toArray, List.set_cons_zero, List.set_cons_succ]
          rfl
        refine one_ (i := 28) (N := (some 4)) #[true, true, true, true, true, true, true, true, true, true, true, true, true, true, true, true, true, true, true, true, true, true, true, true, true, true, true, true, true, false] rfl rfl (one_of HT_.out (by kernel_rfl)) (by decide) (fun K hK => ?_)
        have hs3 := hHeld
        refine value_ (by rfl) rfl (ex_alloc (run_alloc51 _) rfl) ?_
        refine hK.out _ _ (hHeld.below (below_alloc (Below.refl _ _) _)) (fun hHeld => ?_)
        clear hK K
        refine norm_ (a' := ?_) ?_ ?_
        rotate_left
        · show Act.put _ (some 4) _ = _
          simp only [Act.put, List.setIfInBounds_toArray, List.set_cons_zero, List.set_cons_succ]
          rfl
        refine one_ (i := 29) (N := none) #[true, true, true, true, true, true, true, true, true, true, true, true, true, true, true, true, true, true, true, true, true, true, true, true, true, true, true, true, true, true] rfl rfl (one_of HT_.out (by kernel_rfl)) (by decide) (fun K hK => ?_)
        have hbs := Below.setRow' (below_alloc (Below.refl w1d.heap.size w1d) (.cells Sup.zero.cells 51)) (Nat.le_refl _) S.cells
        have HAx := Lib.hid ((SAt.new 51 w1d Sup.zero).set (s := S))
        have Hbs := Lib.hid hbs
        refine skip_ (by rfl) rfl (ex_store ((SAt.new 51 w1d Sup.zero).store51 (s := S)) rfl rfl rfl) ?_
        refine hK.out _ _ (hs3.below hbs) (fun hHeld => ?_)
        clear hK K hHeld hbs hs3
        refine done_ (done_of HT_.out (by kernel_rfl)) ?_
        clear HT_ HW_
        go_wp2_with fail
        go_meet
        case rel => exact ⟨_, rfl, Nat.le_refl _, HAx, Hbs⟩
      · skip
        have hs3 := hHeld
        refine value_ (by rfl) rfl (ex_alloc (run_alloc51 _) rfl) ?_
        refine hK.out _ _ (hHeld.below (below_alloc (Below.refl _ _) _)) (fun hHeld => ?_)
        clear hK K
        refine norm_ (a' := ?_) ?_ ?_
        rotate_left
        · show Act.put _ (some 4) _ = _
          simp only [Act.put, List.setIfInBounds_toArray, List.set_cons_zero, List.set_cons_succ]
          rfl
        refine one_ (i := 26) (N := (some 37)) #[true, true, true, true, true, true, true, true, true, true, true, true, true, true, true, true, true, true, true, true, true, true, true, true, true, true, true, false, true, false] rfl rfl (one_of HT_.out (by kernel_rfl)) (by decide) (fun K hK => ?_)
        have hr := (hHeld.v.rest (s := 24) (by omega)).first (m := 8) (by simp; omega)
        rw [if_neg hc24, add24] at hr
        refine call_ 72 #[.slice (some ⟨ad.block, ad.off + 24, none⟩) 8 (c - 24)] (by rfl) rfl (by go_simp) ?_
        refine (eight_any _ _ _ hr (by simp; omega)).mono ?_
        rw [Hf.out]
        rintro e w' ⟨rfl, rfl⟩
        refine ⟨_, rfl, ?_⟩
        refine hK.out _ _ (hHeld) (fun hHeld => ?_)
        clear hK K
        refine norm_ (a' := ?_) ?_ ?_
        rotate_left
        · show Act.put _ (some 37) _ = _
          simp only [Act.put, List.setIfInBounds_toArray, List.set_cons_zero, List.set_cons_succ]
          rfl
        clear hr
        refine pure_ (i := 27) (N := (some 38)) (v := .agg S.cells) #[true, true, true, true, true, true, true, true, true, true, true, true, true, true, true, true, true, true, true, true, true, true, true, true, true, true, true, true, true, false] rfl rfl (any_of HT_.out (by kernel_rfl)) (fun _ _ _ h => h) (Or.inl ⟨by rfl, fun w' => ex_build (b51_sup S) rfl rfl⟩) rfl ?_
        refine norm_ (a' := ?_) ?_ ?_
        rotate_left
        · show Act.put _ (some 38) _ = _
          simp only [Act.put, List.setIfInBounds_toArray, List.set_cons_zero, List.set_cons_succ]
          rfl
        refine one_ (i := 29) (N := none) #[true, true, true, true, true, true, true, true, true, true, true, true, true, true, true, true, true, true, true, true, true, true, true, true, true, true, true, true, true, true] rfl rfl (one_of HT_.out (by kernel_rfl)) (by decide) (fun K hK => ?_)
        have hbs := Below.setRow' (below_alloc (Below.refl w1d.heap.size w1d) (.cells Sup.zero.cells 51)) (Nat.le_refl _) S.cells
        have HAx := Lib.hid ((SAt.new 51 w1d Sup.zero).set (s := S))
        have Hbs := Lib.hid hbs
        refine skip_ (by rfl) rfl (ex_store ((SAt.new 51 w1d Sup.zero).store51 (s := S)) rfl rfl rfl) ?_
        refine hK.out _ _ (hs3.below hbs) (fun hHeld => ?_)
        clear hK K hHeld hbs hs3
        refine done_ (done_of HT_.out (by kernel_rfl)) ?_
        clear HT_ HW_
        go_wp2_with fail
        go_meet
        case rel => exact ⟨_, rfl, Nat.le_refl _, HAx, Hbs⟩
    · skip
      have hs3 := hHeld
      refine value_ (by rfl) rfl (ex_alloc (run_alloc51 _) rfl) ?_
      refine hK.out _ _ (hHeld.below (below_alloc (Below.refl _ _) _)) (fun hHeld => ?_)
      clear hK K
      refine norm_ (a' := ?_) ?_ ?_
      rotate_left
      · show Act.put _ (some 4) _ = _
        simp only [Act.put, List.setIfInBounds_toArray, List.set_cons_zero, List.set_cons_succ]
        rfl
      refine one_ (i := 23) (N := (some 34)) #[true, true, true, true, true, true, true, true, true, true, true, true, true, true, true, true, true, true, true, true, true, true, true, true, true, true, false, false, true, false] rfl rfl (one_of HT_.out (by kernel_rfl)) (by decide) (fun K hK => ?_)
      have hr := (hHeld.v.rest (s := 16) (by omega)).first (m := 8) (by simp; omega)
      rw [if_neg hc16, add16] at hr
      refine call_ 72 #[.slice (some ⟨ad.block, ad.off + 16, none⟩) 8 (c - 16)] (by rfl) rfl (by go_simp) ?_
      refine (eight_any _ _ _ hr (by simp; omega)).mono ?_
      rw [Ht.out]
      rintro e w' ⟨rfl, rfl⟩
      refine ⟨_, rfl, ?_⟩
      refine hK.out _ _ (hHeld) (fun hHeld => ?_)
      clear hK K
      refine norm_ (a' := ?_) ?_ ?_
      rotate_left
      · show Act.put _ (some 34) _ = _
        simp only [Act.put, List.setIfInBounds_toArray, List.set_cons_zero, List.set_cons_succ]
        rfl
      clear hr
      refine one_ (i := 26) (N := (some 37)) #[true, true, true, true, true, true, true, true, true, true, true, true, true, true, true, true, true, true, true, true, true, true, true, true, true, true, true, false, true, false] rfl rfl (one_of HT_.out (by kernel_rfl)) (by decide) (fun K hK => ?_)
      have hr := (hHeld.v.rest (s := 24) (by omega)).first (m := 8) (by simp; omega)
      rw [if_neg hc24, add24] at hr
      refine call_ 72 #[.slice (some ⟨ad.block, ad.off + 24, none⟩) 8 (c - 24)] (by rfl) rfl (by go_simp) ?_
      refine (eight_any _ _ _ hr (by simp; omega)).mono ?_
      rw [Hf.out]
      rintro e w' ⟨rfl, rfl⟩
      refine ⟨_, rfl, ?_⟩
      refine hK.out _ _ (hHeld) (fun hHeld => ?_)
      clear hK K
      refine norm_ (a' := ?_) ?_ ?_
      rotate_left
      · show Act.put _ (some 37) _ = _
        simp only [Act.put, List.setIfInBounds_toArray, List.set_cons_zero, List.set_cons_succ]
        rfl
      clear hr
      refine pure_ (i := 27) (N := (some 38)) (v := .agg S.cells) #[true, true, true, true, true, true, true, true, true, true, true, true, true, true, true, true, true, true, true, true, true, true, true, true, true, true, true, true, true, false] rfl rfl (any_of HT_.out (by kernel_rfl)) (fun _ _ _ h => h) (Or.inl ⟨by rfl, fun w' => ex_build (b51_sup S) rfl rfl⟩) rfl ?_
      refine norm_ (a' := ?_) ?_ ?_
      rotate_left
      · show Act.put _ (some 38) _ = _
        simp only [Act.put, List.setIfInBounds_toArray, List.set_cons_zero, List.set_cons_succ]
        rfl
      refine one_ (i := 29) (N := none) #[true, true, true, true, true, true, true, true, true, true, true, true, true, true, true, true, true, true, true, true, true, true, true, true, true, true, true, true, true, true] rfl rfl (one_of HT_.out (by kernel_rfl)) (by decide) (fun K hK => ?_)
      have hbs := Below.setRow' (below_alloc (Below.refl w1d.heap.size w1d) (.cells Sup.zero.cells 51)) (Nat.le_refl _) S.cells
      have HAx := Lib.hid ((SAt.new 51 w1d Sup.zero).set (s := S))
      have Hbs := Lib.hid hbs
      refine skip_ (by rfl) rfl (ex_store ((SAt.new 51 w1d Sup.zero).store51 (s := S)) rfl rfl rfl) ?_
      refine hK.out _ _ (hs3.below hbs) (fun hHeld => ?_)
      clear hK K hHeld hbs hs3
      refine done_ (done_of HT_.out (by kernel_rfl)) ?_
      clear HT_ HW_
      go_wp2_with fail
      go_meet
      case rel => exact ⟨_, rfl, Nat.le_refl _, HAx, Hbs⟩
  case rest =>
    obtain ⟨g, rfl, hgl, HAx, Hbx⟩ := hcut
    rw [hw1d] at HB1d HZ1d Hv1d
    clear hS0 hw1d hc24b hc32b hc16 hc24 add16 add24 qb ql qm qh qc b1 b2 l1 l2 m1 m2 x1 x2 c1 c2
    have HB4 := Lib.hid (below_then HB1d.out Hbx.out)
    have HZ4 := Lib.hid (HZ1d.out.below Hbx.out)
    have Hv4 := Lib.hid (Hv1d.out.below Hbx.out)
    clear Hbx HB1d HZ1d Hv1d
    go_wp2_with (first
      | (refine go_value (o := ⟨some 40, _, _, _, _, _⟩) (by rfl) (ex_load HAx.out.load51 rfl rfl) ?_)
      | fail)
    refine (rsencode_any S _ HSo.out).mono ?_
    by_cases hok : SupOk S
    · have hev : encS S = enc7 S := if_pos hok
      rw [supE_ok hok, hev]
      rintro e w5 ⟨v5, rfl, ho5, hb5⟩
      obtain ⟨g5, c5, rfl, -, -, -, -⟩ := ho5.form (by rw [enc7_length]; omega)
      rw [enc7_length] at ho5 ⊢
      have HA5 := Lib.hid (HAx.out.below hb5)
      have HB5 := Lib.hid (below_then HB4.out hb5)
      have HZ5 := Lib.hid (HZ4.out.below hb5)
      have cs1 := conv_str ho5.reads
      have cs2 := conv_str (Hv4.out.below hb5)
      have hiB := enc7_isB hok
      clear hb5 ho5 HAx HB4 HZ4 Hv4
      by_cases heq : enc7 S = b
      · have hd : sdecOk b := HD.out.2 ⟨hok, heq⟩
        have HE : Hid (sdecE b = 0) := Lib.hid (by rw [sdecE, if_pos hl, if_pos hd])
        have HV : Hid (sdecV b = S) := Lib.hid (HDV.out hd)
        have hst : ((strOfNums (enc7 S)).toList == (strOfNums b).toList) = true := by rw [heq]; simp
        clear hd heq hok hev hiB
        go_wp2_with (first
          | (refine go_value (o := ⟨some 54, _, _, _, _, _⟩) (by rfl) (ex_load HA5.out.load51 rfl rfl) ?_)
          | (refine go_skip (o := ⟨none, .store 51 _ _, _, _, _, _⟩) (by rfl) (ex_store (HZ5.out.store51 (s := S)) rfl rfl rfl) ?_))
        refine bodyPost_ret_by (results_cell_tmp (p := 2) (q := 3) (ty := 51) (by kernel_rfl) _ _ w.heap.size S.cells (.int .i64 0) ((HZ5.out.set (s := S)).load51) rfl rfl) rfl ⟨by rw [HE.out, HV.out], Below.setRow' HB5.out (Nat.le_refl _) _⟩
      · have hd : ¬ sdecOk b := fun h => heq (HD.out.1 h).2
        have HE : Hid (sdecE b = 70) := Lib.hid (by rw [sdecE, if_pos hl, if_neg hd])
        have HV : Hid (sdecV b = Sup.zero) := Lib.hid (if_neg hd)
        have hst : ((strOfNums (enc7 S)).toList == (strOfNums b).toList) = false := by rw [str_beq hiB Hb.out]; simpa using heq
        clear hd heq hok hev hiB
        go_wp2_with (first
          | (refine go_value (o := ⟨some 53, _, _, _, _, _⟩) (by rfl) (ex_build b51_none rfl rfl) ?_)
          | (refine go_skip (o := ⟨none, .store 51 _ _, _, _, _, _⟩) (by rfl) (ex_store (HZ5.out.store51 (s := Sup.zero)) rfl rfl rfl) ?_))
        refine bodyPost_ret_by (results_cell_tmp (p := 2) (q := 3) (ty := 51) (by kernel_rfl) _ _ w.heap.size Sup.zero.cells (.int .i64 70) ((HZ5.out.set (s := Sup.zero)).load51) rfl rfl) rfl ⟨by rw [HE.out, HV.out], Below.setRow' HB5.out (Nat.le_refl _) _⟩
    · have hd : ¬ sdecOk b := fun h => hok (HD.out.1 h).1
      have HE : Hid (sdecE b = 70) := Lib.hid (by rw [sdecE, if_pos hl, if_neg hd])
      have HV : Hid (sdecV b = Sup.zero) := Lib.hid (if_neg hd)
      have hne := supE_no hok
      have hev : encS S = [] := if_neg hok
      rw [hev]
      generalize supE S = ex at hne ⊢
      have hne2 : (ex == 0) = false := by simpa using hne
      have hne3 : (ex != 0) = true := by simpa using hne
      rintro e w5 ⟨v5, rfl, ho5, hb5⟩
      have HB5 := Lib.hid (below_then HB4.out hb5)
      have HZ5 := Lib.hid (HZ4.out.below hb5)
      have cs1 := conv_str ho5.reads
      have cs2 := conv_str (Hv4.out.below hb5)
      obtain ⟨A5, c5, rfl⟩ := ho5.bareform
      clear hb5 ho5 HAx HB4 HZ4 Hv4 hd hok hev
      go_wp2_with (first
        | (refine go_value (o := ⟨some 53, _, _, _, _, _⟩) (by rfl) (ex_build b51_none rfl rfl) ?_)
        | (refine go_skip (o := ⟨none, .store 51 _ _, _, _, _, _⟩) (by rfl) (ex_store (HZ5.out.store51 (s := Sup.zero)) rfl rfl rfl) ?_))
      refine bodyPost_ret_by (results_cell_tmp (p := 2) (q := 3) (ty := 51) (by kernel_rfl) _ _ w.heap.size Sup.zero.cells (.int .i64 70) ((HZ5.out.set (s := Sup.zero)).load51) rfl rfl) rfl ⟨by rw [HE.out, HV.out], Below.setRow' HB5.out (Nat.le_refl _) _⟩
theorem rsdec_any (v : Value) (b : List Int) (w : World) (hv : RBy w v b) :
    Calls Tryd.prog 52 #[v] w fun e w' => e = .returned (.tuple #[.agg (sdecV b).cells, .int .i64 (sdecE b)]) ∧ Below w.heap.size w w' := by
  by_cases hl : b.length = 64
  · exact rsdec_any64 v b w hv hl
  · exact rsdec_len v b w hv hl
end Go.Proofs.YtblfmofhfbbmdaaDoor
