/- The reference's Decode of a record. -/
import Derived.Test.YtblfmofhfbbmdaaDoorRec7
import Derived.Test.YtblfmofhfbbmdaaDoorRec8
set_option linter.unusedVariables false
set_option linter.unusedSimpArgs false
namespace Go.Proofs.YtblfmofhfbbmdaaDoor
open Go.RowKit Crc Go.Proofs.YtblfmofhfbbmdaaDoorW.PrintWords Go.Proofs.YtblfmofhfbbmdaaDoorW.PrintLast

theorem Hid.mk_ {p : Prop} (h : Hid p) : Hid p := h
/-- What the reference reads. -/
def rdecR (b : List Int) : Rec :=
  let k := b[1]?.getD 0
  let n := numU ((b.take 16).drop 12)
  ⟨k, numU ((b.take 12).drop 4), if k = 1 then n else 0, (b.take 48).drop 16, if k = 1 then 0 else n⟩
theorem okRec_k {r : Rec} (h : okRec r = true) : r.k = 1 ∨ r.k = 2 := by
  simp only [okRec, okImage, okCommit, Bool.and_eq_true, Bool.or_eq_true, decide_eq_true_eq, beq_iff_eq] at h
  obtain ⟨_, ⟨h, _⟩ | ⟨h, _⟩⟩ := h
  · exact Or.inl h
  · exact Or.inr h
theorem rdec_dec (b : List Int) (h : b[1]?.getD 0 = 1 ∨ b[1]?.getD 0 = 2) : rdecR b = decR b := by
  unfold rdecR decR
  rcases h with h | h <;> simp [h]
theorem rdecR_eq (b : List Int) (h : okRec (rdecR b) = true) : decR b = rdecR b := (rdec_dec b (okRec_k h)).symm
theorem decOk_iff (b : List Int) (hl : b.length = 64) : decOk b = true ↔ okRec (rdecR b) = true ∧ encL (rdecR b) = b := by
  simp only [decOk, Bool.and_eq_true, decide_eq_true_eq, beq_iff_eq, hl, true_and]
  constructor
  · rintro ⟨h1, h2⟩
    have e := rdec_dec b (okRec_k (r := decR b) h1)
    rw [e]; exact ⟨h1, h2⟩
  · rintro ⟨h1, h2⟩
    rw [rdecR_eq b h1]; exact ⟨h1, h2⟩
theorem bodyL_isB {r : Rec} (hr : r.ok) (h : okRec r = true) : IsB (bodyL r) := by
  have hk := okRec_k h
  intro x hx
  simp only [bodyL, List.flatten_cons, List.flatten_nil, List.append_nil, List.mem_append, List.mem_cons, List.not_mem_nil, or_false, List.mem_replicate] at hx
  rcases hx with (rfl | rfl | rfl | rfl) | hx | hx | hx | ⟨_, rfl⟩
  · omega
  · omega
  · omega
  · omega
  · exact le_isB _ _ _ hx
  · exact le_isB _ _ _ hx
  · exact hr.v _ hx
  · omega
theorem encL_isB {r : Rec} (hr : r.ok) (h : okRec r = true) : IsB (encL r) := (bodyL_isB hr h).append (le_isB _ _)
theorem rdecR_ok (b : List Int) (hb : IsB b) (hl : b.length = 64) : (rdecR b).ok := by
  have h1 := hb.at 1
  have h2 := numU_range ((b.take 12).drop 4)
  have h3 : numU ((b.take 16).drop 12) < 256 ^ ((b.take 16).drop 12).length := numU_lt _ ((hb.take 16).drop 12) (by simp; omega)
  have h4 := numU_range ((b.take 16).drop 12)
  have h5 : ((b.take 16).drop 12).length = 4 := by simp; omega
  rw [h5] at h3
  refine ⟨?_, h2, ?_, (hb.take 48).drop 16, by simp [rdecR]; omega, ?_⟩
  · show _ ≤ b[1]?.getD 0 ∧ b[1]?.getD 0 ≤ _; omega
  · show _ ≤ (if b[1]?.getD 0 = 1 then numU ((b.take 16).drop 12) else 0) ∧ (if b[1]?.getD 0 = 1 then numU ((b.take 16).drop 12) else 0) ≤ _
    split <;> omega
  · show _ ≤ (if b[1]?.getD 0 = 1 then 0 else numU ((b.take 16).drop 12)) ∧ (if b[1]?.getD 0 = 1 then 0 else numU ((b.take 16).drop 12)) ≤ _
    split <;> omega
/-- The record with t bytes of its value read. -/
def vUp (b : List Int) (t : Nat) (r : Rec) : Rec := { r with v := ((b.take 48).drop 16).take t ++ List.replicate (32 - t) 0 }
theorem vUp_n (b : List Int) (t : Nat) (ht : t ≤ 32) (hl : b.length = 64) {r : Rec} : (vUp b t r).v.length = 32 := by simp [vUp]; omega
theorem vUp_set (b : List Int) (t : Nat) (ht : t < 32) (hl : b.length = 64) {r : Rec} : ({ vUp b t r with v := (vUp b t r).v.set t (b[16 + t]?.getD 0) } : Rec) = vUp b (t + 1) r := by
  have hv : ((b.take 48).drop 16).length = 32 := by simp; omega
  have e : ((b.take 48).drop 16)[t]'(by omega) = b[16 + t]?.getD 0 := by
    rw [List.getElem_drop, List.getElem_take, List.getElem?_eq_getElem (by omega)]; rfl
  unfold vUp
  obtain ⟨X, hX⟩ : ∃ X, (b.take 48).drop 16 = X := ⟨_, rfl⟩
  have e' : X[t]? = some (b[16 + t]?.getD 0) := by rw [← hX, List.getElem?_eq_getElem (by omega), e]
  rw [hX] at hv ⊢
  have e2 : X.take (t + 1) = X.take t ++ [b[16 + t]?.getD 0] := by
    rw [List.take_add_one, e']; rfl
  simp only [Rec.mk.injEq, true_and, and_true]
  rw [e2, List.set_append_right _ _ (by simp; omega), List.length_take, hv, show t - min t 32 = 0 by omega, show 32 - t = (31 - t) + 1 by omega, List.replicate_succ, List.set_cons_zero, show 32 - (t + 1) = 31 - t by omega]
  simp only [List.append_assoc, List.cons_append, List.nil_append]
theorem Rec.setv1 (r : Rec) (t : Nat) (x : Int) (ht : t < r.v.length) : r.cells.setIfInBounds (3 + t) (.int .u8 x) = ({ r with v := r.v.set t x } : Rec).cells := by
  apply Array.ext'
  rw [show 3 + t = t + 1 + 1 + 1 by omega]
  simp [Rec.cells, bytes, List.set_append, ht, List.map_set]
def T44_3 : Bool × List (List Nat × List Nat) := (true, [([], []), ([0], [0]), ([1], [1]), ([2], [2]), ([], []), ([4], [4]), ([3, 5], [3, 5]), ([], []), ([7, 6, 5, 0, 1, 2, 3, 4, 5, 6, 7], [6, 7])])
def B44_3 : List Nat := [0, 1, 3, 7, 0, 16, 63, 0, 255]
theorem tab44_3 : rtab .any (opsOf Tryd.f44 3) = T44_3 := by kernel_rfl
theorem bits44_3 : waitsOk T44_3.2 B44_3 = true := by kernel_rfl
set_option maxRecDepth 100000 in
set_option maxHeartbeats 4000000 in
theorem rdec_len (v : Value) (b : List Int) (w : World) (hv : RBy w v b) (hl : b.length ≠ 64) :
    Calls Tryd.prog 44 #[v] w fun e w' => e = .returned (.tuple #[.agg (decV b).cells, .int .i64 (decE b)]) ∧ Below w.heap.size w w' := by
  have hE : Hid (decE b = 2) := Lib.hid (by rw [decE, if_neg hl])
  have hV : Hid (decV b = Rec.zero) := Lib.hid (by rw [decV, decOk]; simp [hl])
  rw [hE.out, hV.out]
  obtain ⟨A, c, rfl, -⟩ := hv.form
  have hne : ((b.length : Int) != 64) = true := by simp; omega
  have HZ := Lib.hid (At.new 71 w Rec.zero)
  clear hl hv
  go_enter Tryd.func44, Tryd.ntmps44
  go_wp2_with (first
    | (refine go_value (o := ⟨some 2, _, _, _, _, _⟩) (by rfl) (ex_alloc (run_alloc71 _) rfl) ?_)
    | (refine go_value (o := ⟨some 12, _, _, _, _, _⟩) (by rfl) (ex_build b71_none rfl rfl) ?_)
    | (refine go_skip (o := ⟨none, .store 71 _ _, _, _, _, _⟩) (by rfl) (ex_store (HZ.out.store71 zero_n zero_n) rfl rfl rfl) ?_))
  refine bodyPost_ret_by (results_cell_tmp (p := 2) (q := 3) (ty := 71) (by kernel_rfl) _ _ w.heap.size Rec.zero.cells (.int .i64 2) ((HZ.out.set (s := Rec.zero)).load71 zero_n) rfl rfl) rfl ⟨rfl, Below.setRow' (below_alloc (Below.refl _ _) _) (Nat.le_refl _) _⟩

set_option maxRecDepth 100000 in
set_option maxHeartbeats 4000000 in
theorem rdec_any (v : Value) (b : List Int) (w : World) (hv : RBy w v b) (hl : b.length = 64) :
    Calls Tryd.prog 44 #[v] w fun e w' => e = .returned (.tuple #[.agg (decV b).cells, .int .i64 (decE b)]) ∧ Below w.heap.size w w' := by
  obtain ⟨A, c, rfl, hc, hn, hb, hA, hcell⟩ := id hv
  obtain ⟨ad, rfl, hcs⟩ := hcell (by omega)
  rw [hl] at hv hc ⊢
  have HZ := Lib.hid (At.new 71 w Rec.zero)
  have Hv := Lib.hid hv
  have Hb := Lib.hid hb
  have hb0 := Lib.hid (below_alloc (Below.refl w.heap.size w) (.cells Rec.zero.cells 71))
  have hk := (show IsB b from Hb.out).at 1
  have c1 := (hv.below hb0.out).at 1 (by omega)
  rw [show ad.add 1 = ⟨ad.block, ad.off + 1, none⟩ by simp [Addr.add]] at c1
  obtain ⟨k0, hk0⟩ : ∃ k0, b[1]?.getD 0 = k0 := ⟨_, rfl⟩
  rw [hk0] at hk c1
  have Hk0 := Lib.hid hk0
  have hwk : IntKind.i64.wrap k0 = k0 := by simp [IntKind.wrap, IntKind.bits, IntKind.signed]; omega
  have hp := numU_range ((b.drop 4).take 8)
  have hq4 : numU ((b.drop 12).take 4) < 256 ^ ((b.drop 12).take 4).length := numU_lt _ (IsB.take (IsB.drop hb 12) 4) (by simp; omega)
  have hq := numU_range ((b.drop 12).take 4)
  rw [show ((b.drop 12).take 4).length = 4 by simp; omega] at hq4
  obtain ⟨p0, hp0⟩ : ∃ p0, numU ((b.drop 4).take 8) = p0 := ⟨_, rfl⟩
  obtain ⟨q0, hq0⟩ : ∃ q0, numU ((b.drop 12).take 4) = q0 := ⟨_, rfl⟩
  have Hp0 := Lib.hid hp0
  have Hq0 := Lib.hid hq0
  rw [hp0] at hp
  rw [hq0] at hq hq4
  have Hp1 : Hid (numU ((b.take 12).drop 4) = p0) := Lib.hid (by rw [← hp0, List.take_drop])
  have Hq1 : Hid (numU ((b.take 16).drop 12) = q0) := Lib.hid (by rw [← hq0, List.take_drop])
  clear hv hcell hb hcs hA hn hk0 hp0 hq0
  go_enter Tryd.func44, Tryd.ntmps44
  obtain ⟨w1, hw1⟩ : ∃ w1, w.alloc (.cells Rec.zero.cells 71) = w1 := ⟨_, rfl⟩
  have hne : ((64 : Int) != 64) = false := by decide
  go_upto_region 3 with (first
    | (refine go_value (o := ⟨some 2, _, _, _, _, _⟩) (by rfl) (ex_alloc (run_alloc71 _) rfl) ?_)
    | fail)
  rw [hw1] at HZ hb0 c1
  have hv1 : RBy w1 (.slice (some ad) 64 c) b := Hv.out.below hb0.out
  clear hw1
  have hS0 : w1.drew.cell? ⟨ad.block, ad.off + 1, none⟩ = some (.int .u8 k0) ∧ RBy w1.drew (.slice (some ad) 64 c) b := ⟨c1, hv1.below (below_drew (Below.refl _ _))⟩
  have HB1d := Lib.hid (below_drew hb0.out)
  have HZ1d := Lib.hid (HZ.out.below (below_drew (Below.refl _ _)))
  have Hv1d := Lib.hid (hv1.below (below_drew (Below.refl _ _)))
  clear hb0 HZ hv1 c1 Hv hne
  obtain ⟨w1d, hw1d⟩ : ∃ w1d, w1.drew = w1d := ⟨_, rfl⟩
  go_cut [4] from 5 (fun s4 wx => ∃ g, s4 = .pointer (some ⟨g, 0, none⟩) ∧ w1d.heap.size ≤ g ∧ Hid (At 71 wx g (Rec.mk k0 p0 0 zero32 0)) ∧ Hid (Below w1d.heap.size w1d wx))
  case first =>
    refine start_ (n := 9) (S := fun w' => w'.cell? ⟨ad.block, ad.off + 1, none⟩ = some (.int .u8 k0) ∧ RBy w' (.slice (some ad) 64 c) b) (ds := []) #[false, false, false, false, false, false, false, false, false] (by kernel_rfl) rfl rfl (hS0) (fun hHeld => ?_); refine with_tabW tab44_3 bits44_3 (fun HT_ HW_ => ?_)
    clear hS0
    rw [hw1d] at HB1d HZ1d Hv1d hHeld ⊢
    refine pure_ (i := 0) (N := (some 13)) (v := ?_) (a' := ?_) #[true, false, false, false, false, false, false, false, false] rfl rfl (any_of HT_.out (by kernel_rfl)) (fun _ _ _ h => h) (Or.inl ⟨by rfl, ?_⟩) ?_ ?_
    rotate_left
    · intro w'
      go_simp
      with_reducible rfl
    rotate_left
    · simp only [Act.put, List.setIfInBounds_toArray, List.set_cons_zero, List.set_cons_succ]
      rfl
    refine pure_ (i := 1) (N := (some 14)) (v := ?_) (a' := ?_) #[true, true, false, false, false, false, false, false, false] rfl rfl (any_of HT_.out (by kernel_rfl)) (fun _ _ _ h => h) (Or.inl ⟨by rfl, ?_⟩) ?_ ?_
    rotate_left
    · intro w'
      go_simp
      with_reducible rfl
    rotate_left
    · simp only [Act.put, List.setIfInBounds_toArray, List.set_cons_zero, List.set_cons_succ]
      rfl
    refine take_ (i := 2) (N := (some 15)) (v := ?_) (a' := ?_) #[true, true, true, false, false, false, false, false, false] rfl rfl (take_of HT_.out (by kernel_rfl)) (fun _ _ _ h => h) (Or.inl ⟨by rfl, ?_⟩) hHeld ?_ ?_
    rotate_left
    · intro w' hw'
      obtain ⟨q1, q2⟩ := hw'
      go_simp
      with_reducible rfl
    rotate_left
    · simp only [Act.put, List.setIfInBounds_toArray, List.set_cons_zero, List.set_cons_succ]
      rfl
    refine pure_ (i := 3) (N := (some 16)) (v := ?_) (a' := ?_) #[true, true, true, true, false, false, false, false, false] rfl rfl (any_of HT_.out (by kernel_rfl)) (fun _ _ _ h => h) (Or.inl ⟨by rfl, ?_⟩) ?_ ?_
    rotate_left
    · intro w'
      go_simp
      with_reducible rfl
    rotate_left
    · simp only [Act.put, List.setIfInBounds_toArray, List.set_cons_zero, List.set_cons_succ]
      rfl
    refine pure_ (i := 4) (N := (some 17)) (v := ?_) (a' := ?_) #[true, true, true, true, true, false, false, false, false] rfl rfl (any_of HT_.out (by kernel_rfl)) (fun _ _ _ h => h) (Or.inl ⟨by rfl, ?_⟩) ?_ ?_
    rotate_left
    · intro w'
      go_simp
      with_reducible rfl
    rotate_left
    · simp only [Act.put, List.setIfInBounds_toArray, List.set_cons_zero, List.set_cons_succ]
      rfl
    refine two_ (i := 5) (j := 7) (Ni := (some 18)) (Nj := (some 4)) #[true, true, true, true, true, true, false, false, false] #[true, true, true, true, true, false, false, true, false] rfl rfl rfl rfl (two_of HT_.out (by kernel_rfl)) (by decide) (by decide) (fun K hK => ?_) (fun K hK => ?_)
    · skip
      refine call_ 69 #[.slice (some ad) 64 c, .int .i64 4, .int .i64 8] (by rfl) rfl (by go_simp) ?_
      refine (rnumber_any (.slice (some ad) 64 c) 4 8 b _ hHeld.2 (by omega) (by omega)).mono ?_
      rw [Hp0.out]
      rintro e w' ⟨rfl, rfl⟩
      refine ⟨_, rfl, ?_⟩
      refine hK.out _ _ (hHeld) (fun hHeld => ?_)
      clear hK K
      refine norm_ (a' := ?_) ?_ ?_
      rotate_left
      · show Act.put _ (some 18) _ = _
        simp only [Act.put, List.setIfInBounds_toArray, List.set_cons_zero, List.set_cons_succ]
        rfl
      refine pure_ (i := 6) (N := (some 19)) (v := .agg (Rec.mk k0 p0 0 zero32 0).cells) #[true, true, true, true, true, true, true, false, false] rfl rfl (any_of HT_.out (by kernel_rfl)) (fun _ _ _ h => h) (Or.inl ⟨by rfl, fun w' => ex_build (b71_kp k0 p0) rfl rfl⟩) rfl ?_
      refine norm_ (a' := ?_) ?_ ?_
      rotate_left
      · show Act.put _ (some 19) _ = _
        simp only [Act.put, List.setIfInBounds_toArray, List.set_cons_zero, List.set_cons_succ]
        rfl
      have hs1 := hHeld
      refine one_ (i := 7) (N := (some 4)) #[true, true, true, true, true, true, true, true, false] rfl rfl (one_of HT_.out (by kernel_rfl)) (by decide) (fun K hK => ?_)
      refine value_ (by rfl) rfl (ex_alloc (run_alloc71 _) rfl) ?_
      refine hK.out _ _ (⟨keep_cell (below_alloc (Below.refl _ _) _) (Nat.le_refl _) hHeld.1, hHeld.2.below (below_alloc (Below.refl _ _) _)⟩) (fun hHeld => ?_)
      clear hK K
      refine norm_ (a' := ?_) ?_ ?_
      rotate_left
      · show Act.put _ (some 4) _ = _
        simp only [Act.put, List.setIfInBounds_toArray, List.set_cons_zero, List.set_cons_succ]
        rfl
      refine one_ (i := 8) (N := none) #[true, true, true, true, true, true, true, true, true] rfl rfl (one_of HT_.out (by kernel_rfl)) (by decide) (fun K hK => ?_)
      have hbs := Below.setRow' (below_alloc (Below.refl w1d.heap.size w1d) (.cells Rec.zero.cells 71)) (Nat.le_refl _) (Rec.mk k0 p0 0 zero32 0).cells
      have HAx := Lib.hid ((At.new 71 w1d Rec.zero).set (s := Rec.mk k0 p0 0 zero32 0))
      have Hbs := Lib.hid hbs
      refine skip_ (by rfl) rfl (ex_store ((At.new 71 w1d Rec.zero).store71 zero_n (s := Rec.mk k0 p0 0 zero32 0) rfl) rfl rfl rfl) ?_
      refine hK.out _ _ ⟨keep_cell hbs (Nat.le_refl _) hs1.1, hs1.2.below hbs⟩ (fun hHeld => ?_)
      clear hK K hHeld hbs hs1
      refine done_ (done_of HT_.out (by kernel_rfl)) ?_
      clear HT_ HW_
      go_wp2_with fail
      go_meet
      case rel => exact ⟨_, rfl, Nat.le_refl _, Hid.mk_ HAx, Hbs⟩
    · skip
      have hs1 := hHeld
      refine value_ (by rfl) rfl (ex_alloc (run_alloc71 _) rfl) ?_
      refine hK.out _ _ (⟨keep_cell (below_alloc (Below.refl _ _) _) (Nat.le_refl _) hHeld.1, hHeld.2.below (below_alloc (Below.refl _ _) _)⟩) (fun hHeld => ?_)
      clear hK K
      refine norm_ (a' := ?_) ?_ ?_
      rotate_left
      · show Act.put _ (some 4) _ = _
        simp only [Act.put, List.setIfInBounds_toArray, List.set_cons_zero, List.set_cons_succ]
        rfl
      refine one_ (i := 5) (N := (some 18)) #[true, true, true, true, true, true, false, true, false] rfl rfl (one_of HT_.out (by kernel_rfl)) (by decide) (fun K hK => ?_)
      refine call_ 69 #[.slice (some ad) 64 c, .int .i64 4, .int .i64 8] (by rfl) rfl (by go_simp) ?_
      refine (rnumber_any (.slice (some ad) 64 c) 4 8 b _ hHeld.2 (by omega) (by omega)).mono ?_
      rw [Hp0.out]
      rintro e w' ⟨rfl, rfl⟩
      refine ⟨_, rfl, ?_⟩
      refine hK.out _ _ (hHeld) (fun hHeld => ?_)
      clear hK K
      refine norm_ (a' := ?_) ?_ ?_
      rotate_left
      · show Act.put _ (some 18) _ = _
        simp only [Act.put, List.setIfInBounds_toArray, List.set_cons_zero, List.set_cons_succ]
        rfl
      refine pure_ (i := 6) (N := (some 19)) (v := .agg (Rec.mk k0 p0 0 zero32 0).cells) #[true, true, true, true, true, true, true, true, false] rfl rfl (any_of HT_.out (by kernel_rfl)) (fun _ _ _ h => h) (Or.inl ⟨by rfl, fun w' => ex_build (b71_kp k0 p0) rfl rfl⟩) rfl ?_
      refine norm_ (a' := ?_) ?_ ?_
      rotate_left
      · show Act.put _ (some 19) _ = _
        simp only [Act.put, List.setIfInBounds_toArray, List.set_cons_zero, List.set_cons_succ]
        rfl
      refine one_ (i := 8) (N := none) #[true, true, true, true, true, true, true, true, true] rfl rfl (one_of HT_.out (by kernel_rfl)) (by decide) (fun K hK => ?_)
      have hbs := Below.setRow' (below_alloc (Below.refl w1d.heap.size w1d) (.cells Rec.zero.cells 71)) (Nat.le_refl _) (Rec.mk k0 p0 0 zero32 0).cells
      have HAx := Lib.hid ((At.new 71 w1d Rec.zero).set (s := Rec.mk k0 p0 0 zero32 0))
      have Hbs := Lib.hid hbs
      refine skip_ (by rfl) rfl (ex_store ((At.new 71 w1d Rec.zero).store71 zero_n (s := Rec.mk k0 p0 0 zero32 0) rfl) rfl rfl rfl) ?_
      refine hK.out _ _ ⟨keep_cell hbs (Nat.le_refl _) hs1.1, hs1.2.below hbs⟩ (fun hHeld => ?_)
      clear hK K hHeld hbs hs1
      refine done_ (done_of HT_.out (by kernel_rfl)) ?_
      clear HT_ HW_
      go_wp2_with fail
      go_meet
      case rel => exact ⟨_, rfl, Nat.le_refl _, Hid.mk_ HAx, Hbs⟩
  case rest =>
    obtain ⟨g, rfl, hgl, HA3, Hb3⟩ := hcut
    rw [hw1d] at HB1d HZ1d Hv1d
    clear hS0 hw1d hk hwk
    have hdo := rdecR_ok b Hb.out hl
    have hdn := hdo.n
    have h0 := HA3.out.c0
    have hvw := Hv1d.out.below Hb3.out
    have Hvw := Lib.hid hvw
    have hwq : IntKind.i64.wrap q0 = q0 := by simp [IntKind.wrap, IntKind.bits, IntKind.signed]; omega
    clear hvw
    go_wp2_with fail
    refine (rnumber_any (.slice (some ad) 64 c) 12 4 b _ Hvw.out (by omega) (by omega)).mono ?_
    rw [Hq0.out]
    rintro e w' ⟨rfl, rfl⟩
    clear Hvw
    by_cases hk1 : k0 = 1
    · have Hk1 := Lib.hid hk1
      rw [hk1] at h0
      clear hk1
      have HA4 : Hid (At 71 (wc.setCell ⟨g, 2, none⟩ (.int .i64 q0)) g (vUp b 0 (Rec.mk k0 p0 q0 zero32 0))) := Lib.hid (by have h9 := heap_setCell_same wc g 2 _ _ (.int .i64 q0) HA3.out; rw [Rec.setb _ _] at h9; exact h9)
      have Hb4 : Hid (Below w1d.heap.size w1d (wc.setCell ⟨g, 2, none⟩ (.int .i64 q0))) := Lib.hid (Hb3.out.setCell (by exact hgl) _)
      have cc := HA3.out.c2
      have ff := HA3.out.free 2
      have HD : Hid (vUp b 32 (Rec.mk k0 p0 q0 zero32 0) = rdecR b) := Lib.hid (by unfold vUp rdecR; rw [Hk0.out, Hp1.out, Hq1.out, List.take_of_length_le (show ((b.take 48).drop 16).length ≤ 32 by simp; omega)]; simp [Hk1.out])
      clear HA3 Hb3
      go_wp2_with fail
      clear cc ff
      go_loopw [6] (fun iv wr => ∃ t : Nat, iv = .int .i64 (t : Int) ∧ t ≤ 32 ∧ Hid (At 71 wr g (vUp b t (Rec.mk k0 p0 q0 zero32 0))) ∧ Hid (Below w1d.heap.size w1d wr)) (fun iv _ => 32 - (intOf iv).toNat)
      case atStart => exact ⟨0, rfl, Nat.zero_le _, HA4, Hb4⟩
      case round =>
        clear HA4 Hb4
        obtain ⟨t, rfl, ht, HAt, Hbt⟩ := hrel
        by_cases hlt : t < 32
        · have hcv := HAt.out.cv t (by rw [vUp_n b t ht hl]; exact hlt)
          have hfr := HAt.out.free (3 + t)
          have hcb := (Hv1d.out.below Hbt.out).at (16 + t) (by omega)
          have hxb := (show IsB b from Hb.out).at (16 + t)
          have HA5 : Hid (At 71 (wr.setCell ⟨g, 3 + t, none⟩ (.int .u8 (b[16 + t]?.getD 0))) g (vUp b (t + 1) (Rec.mk k0 p0 q0 zero32 0))) := Lib.hid (by have h9 := heap_setCell_same wr g (3 + t) _ _ (.int .u8 (b[16 + t]?.getD 0)) HAt.out; rw [Rec.setv1 _ t _ (by rw [vUp_n b t ht hl]; exact hlt), vUp_set b t hlt hl] at h9; exact h9)
          have Hb5 : Hid (Below w1d.heap.size w1d (wr.setCell ⟨g, 3 + t, none⟩ (.int .u8 (b[16 + t]?.getD 0)))) := Lib.hid (Hbt.out.setCell (by exact hgl) _)
          generalize b[16 + t]?.getD 0 = x at hcb hxb HA5 Hb5
          generalize (vUp b t (Rec.mk k0 p0 q0 zero32 0)).v[t]?.getD 0 = y at hcv
          clear HAt Hbt
          go_wp2
          go_roundw
          case rel => exact ⟨t + 1, by go_num, by omega, HA5, Hb5⟩
          case measure => simp [intOf]; omega
        · obtain rfl : t = 32 := by omega
          have HA4 : Hid (At 71 wr g (rdecR b)) := Lib.hid (by have h9 := HAt.out; rwa [HD.out] at h9)
          have HB4 := Lib.hid (below_then HB1d.out Hbt.out)
          have HZ4 := Lib.hid (HZ1d.out.below Hbt.out)
          have Hv4 := Lib.hid (Hv1d.out.below Hbt.out)
          clear HB1d HZ1d Hv1d Hbt HAt HD
          by_cases hok : okRec (rdecR b) = true
          · have Hchk : Hid (chkE (rdecR b) = 0) := Lib.hid (by rw [chkE, if_pos hok])
            have hev : encV (rdecR b) = encL (rdecR b) := by rw [encV, if_pos hok]
            by_cases heq : encL (rdecR b) = b
            · have hd : decOk b = true := (decOk_iff b hl).2 ⟨hok, heq⟩
              have HE : Hid (decE b = 0) := Lib.hid (by rw [decE, if_pos hl, if_pos hd])
              have HV : Hid (decV b = rdecR b) := Lib.hid (by rw [decV, if_pos hd, rdecR_eq b hok])
              have Hst : Hid (((strOfNums (encV (rdecR b))).toList == (strOfNums b).toList) = true) := Lib.hid (by rw [hev, heq]; simp)
              have hst := Hst.out
              clear hd heq hok hev
              go_wp2_with (first
                | (refine go_value (o := ⟨some 43, _, _, _, _, _⟩) (by rfl) (ex_load (HA4.out.load71 hdn) rfl rfl) ?_)
                | (go_at_call 41; refine (renc_any (rdecR b) _ hdo).mono ?_; rw [Hchk.out]; rintro e w6 ⟨v6, rfl, ho6, hb⟩; have HB6 := Lib.hid (below_then HB4.out hb); have HZ6 := Lib.hid (HZ4.out.below hb); have HA6 := Lib.hid (HA4.out.below hb); have cs1 := conv_str ho6.reads; have cs2 := conv_str (Hv4.out.below hb); obtain ⟨A6, k6, rfl, -⟩ := ho6.reads.form; clear hb ho6)
                | (refine go_value (o := ⟨some 57, _, _, _, _, _⟩) (by rfl) (ex_load (HA6.out.load71 hdn) rfl rfl) ?_)
                | (refine go_skip (o := ⟨none, .store 71 _ _, _, _, _, _⟩) (by rfl) (ex_store (HZ6.out.store71 zero_n (s := rdecR b) hdn) rfl rfl rfl) ?_))
              refine bodyPost_ret_by (results_cell_tmp (p := 2) (q := 3) (ty := 71) (by kernel_rfl) _ _ w.heap.size (rdecR b).cells (.int .i64 0) ((HZ6.out.set (s := rdecR b)).load71 hdn) rfl rfl) rfl ⟨by rw [HE.out, HV.out], Below.setRow' HB6.out (Nat.le_refl _) _⟩
            · have hd : ¬ decOk b = true := fun h => heq ((decOk_iff b hl).1 h).2
              have HE : Hid (decE b = 60) := Lib.hid (by rw [decE, if_pos hl, if_neg hd])
              have HV : Hid (decV b = Rec.zero) := Lib.hid (by rw [decV, if_neg hd])
              have hst : ((strOfNums (encV (rdecR b))).toList == (strOfNums b).toList) = false := by rw [hev, str_beq (encL_isB hdo hok) Hb.out]; simpa using heq
              clear hd heq hok hev
              go_wp2_with (first
                | (refine go_value (o := ⟨some 43, _, _, _, _, _⟩) (by rfl) (ex_load (HA4.out.load71 hdn) rfl rfl) ?_)
                | (go_at_call 41; refine (renc_any (rdecR b) _ hdo).mono ?_; rw [Hchk.out]; rintro e w6 ⟨v6, rfl, ho6, hb⟩; have HB6 := Lib.hid (below_then HB4.out hb); have HZ6 := Lib.hid (HZ4.out.below hb); have HA6 := Lib.hid (HA4.out.below hb); have cs1 := conv_str ho6.reads; have cs2 := conv_str (Hv4.out.below hb); obtain ⟨A6, k6, rfl, -⟩ := ho6.reads.form; clear hb ho6)
                | (refine go_value (o := ⟨some 56, _, _, _, _, _⟩) (by rfl) (ex_build b71_none rfl rfl) ?_)
                | (refine go_skip (o := ⟨none, .store 71 _ _, _, _, _, _⟩) (by rfl) (ex_store (HZ6.out.store71 zero_n (s := Rec.zero) zero_n) rfl rfl rfl) ?_))
              refine bodyPost_ret_by (results_cell_tmp (p := 2) (q := 3) (ty := 71) (by kernel_rfl) _ _ w.heap.size (Rec.zero).cells (.int .i64 60) ((HZ6.out.set (s := Rec.zero)).load71 zero_n) rfl rfl) rfl ⟨by rw [HE.out, HV.out], Below.setRow' HB6.out (Nat.le_refl _) _⟩
          · have Hchk : Hid (chkE (rdecR b) = 60) := Lib.hid (by rw [chkE, if_neg hok])
            have hd : ¬ decOk b = true := fun h => hok ((decOk_iff b hl).1 h).1
            have HE : Hid (decE b = 60) := Lib.hid (by rw [decE, if_pos hl, if_neg hd])
            have HV : Hid (decV b = Rec.zero) := Lib.hid (by rw [decV, if_neg hd])
            clear hd hok
            go_wp2_with (first
              | (refine go_value (o := ⟨some 43, _, _, _, _, _⟩) (by rfl) (ex_load (HA4.out.load71 hdn) rfl rfl) ?_)
              | (go_at_call 41; refine (renc_any (rdecR b) _ hdo).mono ?_; rw [Hchk.out]; rintro e w6 ⟨v6, rfl, ho6, hb⟩; have HB6 := Lib.hid (below_then HB4.out hb); have HZ6 := Lib.hid (HZ4.out.below hb); have HA6 := Lib.hid (HA4.out.below hb); have cs1 := conv_str ho6.reads; have cs2 := conv_str (Hv4.out.below hb); obtain ⟨A6, k6, rfl, -⟩ := ho6.reads.form; clear hb ho6)
              | (refine go_value (o := ⟨some 56, _, _, _, _, _⟩) (by rfl) (ex_build b71_none rfl rfl) ?_)
              | (refine go_skip (o := ⟨none, .store 71 _ _, _, _, _, _⟩) (by rfl) (ex_store (HZ6.out.store71 zero_n (s := Rec.zero) zero_n) rfl rfl rfl) ?_))
            refine bodyPost_ret_by (results_cell_tmp (p := 2) (q := 3) (ty := 71) (by kernel_rfl) _ _ w.heap.size (Rec.zero).cells (.int .i64 60) ((HZ6.out.set (s := Rec.zero)).load71 zero_n) rfl rfl) rfl ⟨by rw [HE.out, HV.out], Below.setRow' HB6.out (Nat.le_refl _) _⟩
    · have Hk1 := Lib.hid hk1
      have hk1b : (k0 == 1) = false := by simpa using hk1
      clear hk1
      have HA4 : Hid (At 71 (wc.setCell ⟨g, 35, none⟩ (.int .i64 q0)) g (vUp b 0 (Rec.mk k0 p0 0 zero32 q0))) := Lib.hid (by have h9 := heap_setCell_same wc g 35 _ _ (.int .i64 q0) HA3.out; rw [Rec.seti _ _ rfl] at h9; exact h9)
      have Hb4 : Hid (Below w1d.heap.size w1d (wc.setCell ⟨g, 35, none⟩ (.int .i64 q0))) := Lib.hid (Hb3.out.setCell (by exact hgl) _)
      have cc := HA3.out.ci rfl
      have ff := HA3.out.free 35
      have HD : Hid (vUp b 32 (Rec.mk k0 p0 0 zero32 q0) = rdecR b) := Lib.hid (by unfold vUp rdecR; rw [Hk0.out, Hp1.out, Hq1.out, List.take_of_length_le (show ((b.take 48).drop 16).length ≤ 32 by simp; omega)]; simp [Hk1.out])
      clear HA3 Hb3
      go_wp2_with fail
      clear cc ff
      go_loopw [6] (fun iv wr => ∃ t : Nat, iv = .int .i64 (t : Int) ∧ t ≤ 32 ∧ Hid (At 71 wr g (vUp b t (Rec.mk k0 p0 0 zero32 q0))) ∧ Hid (Below w1d.heap.size w1d wr)) (fun iv _ => 32 - (intOf iv).toNat)
      case atStart => exact ⟨0, rfl, Nat.zero_le _, HA4, Hb4⟩
      case round =>
        clear HA4 Hb4
        obtain ⟨t, rfl, ht, HAt, Hbt⟩ := hrel
        by_cases hlt : t < 32
        · have hcv := HAt.out.cv t (by rw [vUp_n b t ht hl]; exact hlt)
          have hfr := HAt.out.free (3 + t)
          have hcb := (Hv1d.out.below Hbt.out).at (16 + t) (by omega)
          have hxb := (show IsB b from Hb.out).at (16 + t)
          have HA5 : Hid (At 71 (wr.setCell ⟨g, 3 + t, none⟩ (.int .u8 (b[16 + t]?.getD 0))) g (vUp b (t + 1) (Rec.mk k0 p0 0 zero32 q0))) := Lib.hid (by have h9 := heap_setCell_same wr g (3 + t) _ _ (.int .u8 (b[16 + t]?.getD 0)) HAt.out; rw [Rec.setv1 _ t _ (by rw [vUp_n b t ht hl]; exact hlt), vUp_set b t hlt hl] at h9; exact h9)
          have Hb5 : Hid (Below w1d.heap.size w1d (wr.setCell ⟨g, 3 + t, none⟩ (.int .u8 (b[16 + t]?.getD 0)))) := Lib.hid (Hbt.out.setCell (by exact hgl) _)
          generalize b[16 + t]?.getD 0 = x at hcb hxb HA5 Hb5
          generalize (vUp b t (Rec.mk k0 p0 0 zero32 q0)).v[t]?.getD 0 = y at hcv
          clear HAt Hbt
          go_wp2
          go_roundw
          case rel => exact ⟨t + 1, by go_num, by omega, HA5, Hb5⟩
          case measure => simp [intOf]; omega
        · obtain rfl : t = 32 := by omega
          have HA4 : Hid (At 71 wr g (rdecR b)) := Lib.hid (by have h9 := HAt.out; rwa [HD.out] at h9)
          have HB4 := Lib.hid (below_then HB1d.out Hbt.out)
          have HZ4 := Lib.hid (HZ1d.out.below Hbt.out)
          have Hv4 := Lib.hid (Hv1d.out.below Hbt.out)
          clear HB1d HZ1d Hv1d Hbt HAt HD
          by_cases hok : okRec (rdecR b) = true
          · have Hchk : Hid (chkE (rdecR b) = 0) := Lib.hid (by rw [chkE, if_pos hok])
            have hev : encV (rdecR b) = encL (rdecR b) := by rw [encV, if_pos hok]
            by_cases heq : encL (rdecR b) = b
            · have hd : decOk b = true := (decOk_iff b hl).2 ⟨hok, heq⟩
              have HE : Hid (decE b = 0) := Lib.hid (by rw [decE, if_pos hl, if_pos hd])
              have HV : Hid (decV b = rdecR b) := Lib.hid (by rw [decV, if_pos hd, rdecR_eq b hok])
              have Hst : Hid (((strOfNums (encV (rdecR b))).toList == (strOfNums b).toList) = true) := Lib.hid (by rw [hev, heq]; simp)
              have hst := Hst.out
              clear hd heq hok hev
              go_wp2_with (first
                | (refine go_value (o := ⟨some 43, _, _, _, _, _⟩) (by rfl) (ex_load (HA4.out.load71 hdn) rfl rfl) ?_)
                | (go_at_call 41; refine (renc_any (rdecR b) _ hdo).mono ?_; rw [Hchk.out]; rintro e w6 ⟨v6, rfl, ho6, hb⟩; have HB6 := Lib.hid (below_then HB4.out hb); have HZ6 := Lib.hid (HZ4.out.below hb); have HA6 := Lib.hid (HA4.out.below hb); have cs1 := conv_str ho6.reads; have cs2 := conv_str (Hv4.out.below hb); obtain ⟨A6, k6, rfl, -⟩ := ho6.reads.form; clear hb ho6)
                | (refine go_value (o := ⟨some 57, _, _, _, _, _⟩) (by rfl) (ex_load (HA6.out.load71 hdn) rfl rfl) ?_)
                | (refine go_skip (o := ⟨none, .store 71 _ _, _, _, _, _⟩) (by rfl) (ex_store (HZ6.out.store71 zero_n (s := rdecR b) hdn) rfl rfl rfl) ?_))
              refine bodyPost_ret_by (results_cell_tmp (p := 2) (q := 3) (ty := 71) (by kernel_rfl) _ _ w.heap.size (rdecR b).cells (.int .i64 0) ((HZ6.out.set (s := rdecR b)).load71 hdn) rfl rfl) rfl ⟨by rw [HE.out, HV.out], Below.setRow' HB6.out (Nat.le_refl _) _⟩
            · have hd : ¬ decOk b = true := fun h => heq ((decOk_iff b hl).1 h).2
              have HE : Hid (decE b = 60) := Lib.hid (by rw [decE, if_pos hl, if_neg hd])
              have HV : Hid (decV b = Rec.zero) := Lib.hid (by rw [decV, if_neg hd])
              have hst : ((strOfNums (encV (rdecR b))).toList == (strOfNums b).toList) = false := by rw [hev, str_beq (encL_isB hdo hok) Hb.out]; simpa using heq
              clear hd heq hok hev
              go_wp2_with (first
                | (refine go_value (o := ⟨some 43, _, _, _, _, _⟩) (by rfl) (ex_load (HA4.out.load71 hdn) rfl rfl) ?_)
                | (go_at_call 41; refine (renc_any (rdecR b) _ hdo).mono ?_; rw [Hchk.out]; rintro e w6 ⟨v6, rfl, ho6, hb⟩; have HB6 := Lib.hid (below_then HB4.out hb); have HZ6 := Lib.hid (HZ4.out.below hb); have HA6 := Lib.hid (HA4.out.below hb); have cs1 := conv_str ho6.reads; have cs2 := conv_str (Hv4.out.below hb); obtain ⟨A6, k6, rfl, -⟩ := ho6.reads.form; clear hb ho6)
                | (refine go_value (o := ⟨some 56, _, _, _, _, _⟩) (by rfl) (ex_build b71_none rfl rfl) ?_)
                | (refine go_skip (o := ⟨none, .store 71 _ _, _, _, _, _⟩) (by rfl) (ex_store (HZ6.out.store71 zero_n (s := Rec.zero) zero_n) rfl rfl rfl) ?_))
              refine bodyPost_ret_by (results_cell_tmp (p := 2) (q := 3) (ty := 71) (by kernel_rfl) _ _ w.heap.size (Rec.zero).cells (.int .i64 60) ((HZ6.out.set (s := Rec.zero)).load71 zero_n) rfl rfl) rfl ⟨by rw [HE.out, HV.out], Below.setRow' HB6.out (Nat.le_refl _) _⟩
          · have Hchk : Hid (chkE (rdecR b) = 60) := Lib.hid (by rw [chkE, if_neg hok])
            have hd : ¬ decOk b = true := fun h => hok ((decOk_iff b hl).1 h).1
            have HE : Hid (decE b = 60) := Lib.hid (by rw [decE, if_pos hl, if_neg hd])
            have HV : Hid (decV b = Rec.zero) := Lib.hid (by rw [decV, if_neg hd])
            clear hd hok
            go_wp2_with (first
              | (refine go_value (o := ⟨some 43, _, _, _, _, _⟩) (by rfl) (ex_load (HA4.out.load71 hdn) rfl rfl) ?_)
              | (go_at_call 41; refine (renc_any (rdecR b) _ hdo).mono ?_; rw [Hchk.out]; rintro e w6 ⟨v6, rfl, ho6, hb⟩; have HB6 := Lib.hid (below_then HB4.out hb); have HZ6 := Lib.hid (HZ4.out.below hb); have HA6 := Lib.hid (HA4.out.below hb); have cs1 := conv_str ho6.reads; have cs2 := conv_str (Hv4.out.below hb); obtain ⟨A6, k6, rfl, -⟩ := ho6.reads.form; clear hb ho6)
              | (refine go_value (o := ⟨some 56, _, _, _, _, _⟩) (by rfl) (ex_build b71_none rfl rfl) ?_)
              | (refine go_skip (o := ⟨none, .store 71 _ _, _, _, _, _⟩) (by rfl) (ex_store (HZ6.out.store71 zero_n (s := Rec.zero) zero_n) rfl rfl rfl) ?_))
            refine bodyPost_ret_by (results_cell_tmp (p := 2) (q := 3) (ty := 71) (by kernel_rfl) _ _ w.heap.size (Rec.zero).cells (.int .i64 60) ((HZ6.out.set (s := Rec.zero)).load71 zero_n) rfl rfl) rfl ⟨by rw [HE.out, HV.out], Below.setRow' HB6.out (Nat.le_refl _) _⟩
end Go.Proofs.YtblfmofhfbbmdaaDoor
