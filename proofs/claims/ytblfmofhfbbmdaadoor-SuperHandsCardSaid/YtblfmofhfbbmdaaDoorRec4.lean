/- A record's bytes: the program's laid and Encode. -/
import Derived.Test.YtblfmofhfbbmdaaDoorRec1
import Derived.Test.YtblfmofhfbbmdaaDoorRec3
import Derived.Deep.RegionHeld3
import Derived.Deep.Cut
import Derived.Test.YtblfmofhfbbmdaaDoorWTab
set_option linter.unusedVariables false
set_option linter.unusedSimpArgs false
namespace Go.Proofs.YtblfmofhfbbmdaaDoor
open Go.RowKit Crc Go.Proofs.YtblfmofhfbbmdaaDoorW.PrintWords Go.Proofs.YtblfmofhfbbmdaaDoorW.PrintLast

/-- A record's first sixty bytes. -/
def bodyL (r : Rec) : List Int := [[87, r.k, 0, 0], le 8 r.p, le 4 (r.b + r.i), r.v, List.replicate 12 0].flatten
def encL (r : Rec) : List Int := bodyL r ++ le 4 (sum (bodyL r))
theorem bodyL_length {r : Rec} (h : r.v.length = 32) : (bodyL r).length = 60 := by simp [bodyL, le_length, h]
theorem encL_length {r : Rec} (h : r.v.length = 32) : (encL r).length = 64 := by simp [encL, bodyL_length h, le_length]
structure Rec.may (r : Rec) : Prop where
  k : 1 ≤ r.k ∧ r.k ≤ 2
  p : 0 ≤ r.p ∧ r.p ≤ 4611686018427387904
  b : 0 ≤ r.b ∧ r.b ≤ 63
  i : 0 ≤ r.i ∧ r.i ≤ 16
theorem okRec_may {r : Rec} (hr : r.ok) (h : okRec r = true) : r.may := by
  have hp := hr.p
  simp only [okRec, okImage, okCommit, Bool.and_eq_true, Bool.or_eq_true, decide_eq_true_eq, beq_iff_eq] at h
  obtain ⟨h1, ⟨h2, h3, h4, h5⟩ | ⟨h2, h3, h4, h5, h6⟩⟩ := h
  · exact ⟨by omega, by omega, by omega, by omega⟩
  · exact ⟨by omega, by omega, by omega, by omega⟩
theorem putL_8 (n : Int) (h : 0 ≤ n ∧ n < 18446744073709551616) : putL n 8 = le 8 n := by
  have : fits n 8 = true := by simp only [fits, beq_iff_eq]; omega
  simp [putL, this]
theorem putL_4 (n : Int) (h : 0 ≤ n ∧ n < 4294967296) : putL n 4 = le 4 n := by
  have : fits n 4 = true := by simp only [fits, beq_iff_eq]; omega
  simp [putL, this]
/-- The cells that laid reads. -/
def S3 (r : Rec) (g : Nat) (w : World) : Prop := w.cell? ⟨g, 1, none⟩ = some (.int .u64 r.p) ∧ w.cell? ⟨g, 2, none⟩ = some (.int .i64 r.b) ∧ w.cell? ⟨g, 35, none⟩ = some (.int .i64 r.i)
theorem S3.below {r : Rec} {g : Nat} {w w' : World} (h : S3 r g w) (hb : Below w.heap.size w w') : S3 r g w' :=
  ⟨keep_cell hb (Nat.le_refl _) h.1, keep_cell hb (Nat.le_refl _) h.2.1, keep_cell hb (Nat.le_refl _) h.2.2⟩
theorem S3.alloc {r : Rec} {g : Nat} {w : World} (h : S3 r g w) (o : Obj) : S3 r g (w.alloc o) := h.below (below_alloc (Below.refl _ _) o)

theorem RBs.five {X : World} {u0 u1 u2 u3 u4 : Value} {t : TypeId} {a b c d e : List Int} (h0 : RBy X u0 a) (h1 : RBy X u1 b) (h2 : RBy X u2 c) (h3 : RBy X u3 d) (h4 : RBy X u4 e) :
    RBs (X.alloc (.cells #[u0, u1, u2, u3, u4] t)) (.slice (some ⟨X.heap.size, 0, none⟩) 5 5) [a, b, c, d, e] :=
  have hb := below_alloc (Below.refl X.heap.size X) (.cells #[u0, u1, u2, u3, u4] t)
  RBs.row (heap_top _ _ _ rfl) [a, b, c, d, e] 5 (by simp) (by simp) (fun j hj => by
    have hj' : j < 5 := by simpa using hj
    rcases (by omega : j = 0 ∨ j = 1 ∨ j = 2 ∨ j = 3 ∨ j = 4) with h | h | h | h | h <;> subst h
    · exact ⟨u0, rfl, h0.below hb⟩
    · exact ⟨u1, rfl, h1.below hb⟩
    · exact ⟨u2, rfl, h2.below hb⟩
    · exact ⟨u3, rfl, h3.below hb⟩
    · exact ⟨u4, rfl, h4.below hb⟩)

def T67_2 : Bool × List (List Nat × List Nat) := (true, [([], []), ([], []), ([1], [1]), ([2], [2]), ([], []), ([4], [4]), ([], []), ([6], [6]), ([5, 7], [5, 7]), ([8], [8]), ([9, 3], [9]), ([], []), ([11], [11]), ([], []), ([0, 3, 10, 12, 13], [0, 3, 10, 12, 13]), ([14, 10], [14]), ([15, 15, 0, 1, 2, 3, 4, 5, 6, 7, 8, 9, 10, 11, 12, 13, 14, 15], [15])])
def B67_2 : List Nat := [0, 0, 2, 6, 0, 16, 0, 64, 240, 496, 1022, 0, 2048, 0, 16383, 32767, 65535]
theorem tab67_2 : rtab .any (opsOf Tryd.f67 2) = T67_2 := by kernel_rfl
theorem bits67_2 : waitsOk T67_2.2 B67_2 = true := by kernel_rfl
set_option maxRecDepth 100000 in
set_option maxHeartbeats 4000000 in
theorem laid_any (r : Rec) (w : World) (hr : r.ok) (hm : r.may) (ht : Tab w) :
    Calls Tryd.prog 67 #[.agg r.cells] w fun e w' => ∃ v', e = .returned v' ∧ OB w' w.heap.size v' (encL r) ∧ Below w.heap.size w w' := by
  have g0 := r.get0
  have g1 := r.get1
  have g2 := r.get2
  have g3 := r.geti hr.n
  have hk := hm.k
  have hp := hm.p
  have hbb := hm.b
  have hii := hm.i
  have hmk : ∀ W : World, (Instr.makeSlice 25 (.int .i64 12) (.int .i64 12)).run Tryd.prog W = .ok (.slice (some ⟨W.heap.size, 0, none⟩) 12 12) (W.alloc (.cells (madeCells #[.int .u8 0] 12) 5)) := mk_bytes 12 (by omega)
  have Ht := Lib.hid ht
  have HA := Lib.hid ((At.new 66 w r).below (below_alloc (Below.refl _ _) (.cells #[.int .u8 87, .int .u8 r.k, .int .u8 0, .int .u8 0] 5)))
  have hd0 := RBy.row (t := 5) (fr := (0, 0)) (heap_top (w.alloc (.cells r.cells 66)) (.cells #[.int .u8 87, .int .u8 r.k, .int .u8 0, .int .u8 0] 5) (w.heap.size + 1) (by simp)) [87, r.k, 0, 0] (by intro x hx; simp at hx; rcases hx with rfl | rfl | rfl <;> omega) 4 (by simp) (by simp) rfl
  have Hd : Hid (RBy ((w.alloc (.cells r.cells 66)).alloc (.cells #[.int .u8 87, .int .u8 r.k, .int .u8 0, .int .u8 0] 5)) (.slice (some ⟨w.heap.size + 1, 0, none⟩) 4 4) [87, r.k, 0, 0]) := hd0
  clear hd0 ht
  go_enter Tryd.func67, Tryd.ntmps67
  go_upto_region 2 with fail
  have hsum : IntKind.u64.wrap (r.b + r.i) = r.b + r.i := by rw [wrap_u64]; omega
  have hsum2 : IntKind.i64.wrap (r.b + r.i) = r.b + r.i := by simp [IntKind.wrap, IntKind.bits, IntKind.signed]; omega
  have hb0 := Lib.hid (below_drew (below_alloc (below_alloc (Below.refl w.heap.size w) (.cells r.cells 66)) (.cells #[.int .u8 87, .int .u8 r.k, .int .u8 0, .int .u8 0] 5)))
  have hd0 := Lib.hid (Hd.out.below (below_drew (Below.refl _ _)))
  have hv0 := Lib.hid ((HA.out.reads hr).below (below_drew (Below.refl _ _)))
  have hS0 : S3 r w.heap.size (((w.alloc (.cells r.cells 66)).alloc (.cells #[.int .u8 87, .int .u8 r.k, .int .u8 0, .int .u8 0] 5)).drew) := S3.below ⟨HA.out.c1, HA.out.c2, HA.out.ci hr.n⟩ (below_drew (Below.refl _ _))
  have hlen : Hid ([[87, r.k, 0, 0], le 8 r.p, le 4 (r.b + r.i), r.v, List.replicate 12 0].flatten.length ≤ 140737488355328) := by show (bodyL r).length ≤ _; rw [bodyL_length hr.n]; omega
  go_cut [4] from 5 (fun s4 wx => Hid (OB wx w.heap.size s4 (bodyL r)) ∧ Hid (Below w.heap.size w wx))
  case first =>
    refine start_ (n := 17) (S := S3 r w.heap.size) (ds := []) #[false, false, false, false, false, false, false, false, false, false, false, false, false, false, false, false, false] (by kernel_rfl) rfl rfl (hS0) (fun hHeld => ?_); refine with_tabW tab67_2 bits67_2 (fun HT_ HW_ => ?_)
    generalize ((w.alloc (.cells r.cells 66)).alloc (.cells #[.int .u8 87, .int .u8 r.k, .int .u8 0, .int .u8 0] 5)).drew = w0 at hb0 hd0 hv0 hS0 hHeld ⊢
    clear HA Hd hS0 g0 g1 g2 g3
    refine pure_ (i := 0) (N := (some 9)) (v := ?_) (a' := ?_) #[true, false, false, false, false, false, false, false, false, false, false, false, false, false, false, false, false] rfl rfl (any_of HT_.out (by kernel_rfl)) (fun _ _ _ h => h) (Or.inl ⟨by rfl, ?_⟩) ?_ ?_
    rotate_left
    · intro w'
      go_simp
      with_reducible rfl
    rotate_left
    · simp only [Act.put, List.setIfInBounds_toArray, List.set_cons_zero, List.set_cons_succ]
      rfl
    refine pure_ (i := 1) (N := (some 10)) (v := ?_) (a' := ?_) #[true, true, false, false, false, false, false, false, false, false, false, false, false, false, false, false, false] rfl rfl (any_of HT_.out (by kernel_rfl)) (fun _ _ _ h => h) (Or.inl ⟨by rfl, ?_⟩) ?_ ?_
    rotate_left
    · intro w'
      go_simp
      with_reducible rfl
    rotate_left
    · simp only [Act.put, List.setIfInBounds_toArray, List.set_cons_zero, List.set_cons_succ]
      rfl
    refine take_ (i := 2) (N := (some 11)) (v := ?_) (a' := ?_) #[true, true, true, false, false, false, false, false, false, false, false, false, false, false, false, false, false] rfl rfl (take_of HT_.out (by kernel_rfl)) (fun _ _ _ h => h) (Or.inl ⟨by rfl, ?_⟩) hHeld ?_ ?_
    rotate_left
    · intro w' hw'
      obtain ⟨q1, q2, q3⟩ := hw'
      go_simp
      with_reducible rfl
    rotate_left
    · simp only [Act.put, List.setIfInBounds_toArray, List.set_cons_zero, List.set_cons_succ]
      rfl
    refine pure_ (i := 4) (N := (some 13)) (v := ?_) (a' := ?_) #[true, true, true, false, true, false, false, false, false, false, false, false, false, false, false, false, false] rfl rfl (any_of HT_.out (by kernel_rfl)) (fun _ _ _ h => h) (Or.inl ⟨by rfl, ?_⟩) ?_ ?_
    rotate_left
    · intro w'
      go_simp
      with_reducible rfl
    rotate_left
    · simp only [Act.put, List.setIfInBounds_toArray, List.set_cons_zero, List.set_cons_succ]
      rfl
    refine take_ (i := 5) (N := (some 14)) (v := ?_) (a' := ?_) #[true, true, true, false, true, true, false, false, false, false, false, false, false, false, false, false, false] rfl rfl (take_of HT_.out (by kernel_rfl)) (fun _ _ _ h => h) (Or.inl ⟨by rfl, ?_⟩) hHeld ?_ ?_
    rotate_left
    · intro w' hw'
      obtain ⟨q1, q2, q3⟩ := hw'
      go_simp
      with_reducible rfl
    rotate_left
    · simp only [Act.put, List.setIfInBounds_toArray, List.set_cons_zero, List.set_cons_succ]
      rfl
    refine pure_ (i := 6) (N := (some 15)) (v := ?_) (a' := ?_) #[true, true, true, false, true, true, true, false, false, false, false, false, false, false, false, false, false] rfl rfl (any_of HT_.out (by kernel_rfl)) (fun _ _ _ h => h) (Or.inl ⟨by rfl, ?_⟩) ?_ ?_
    rotate_left
    · intro w'
      go_simp
      with_reducible rfl
    rotate_left
    · simp only [Act.put, List.setIfInBounds_toArray, List.set_cons_zero, List.set_cons_succ]
      rfl
    refine take_ (i := 7) (N := (some 16)) (v := ?_) (a' := ?_) #[true, true, true, false, true, true, true, true, false, false, false, false, false, false, false, false, false] rfl rfl (take_of HT_.out (by kernel_rfl)) (fun _ _ _ h => h) (Or.inl ⟨by rfl, ?_⟩) hHeld ?_ ?_
    rotate_left
    · intro w' hw'
      obtain ⟨q1, q2, q3⟩ := hw'
      go_simp
      with_reducible rfl
    rotate_left
    · simp only [Act.put, List.setIfInBounds_toArray, List.set_cons_zero, List.set_cons_succ]
      rfl
    refine pure_ (i := 8) (N := (some 17)) (v := ?_) (a' := ?_) #[true, true, true, false, true, true, true, true, true, false, false, false, false, false, false, false, false] rfl rfl (any_of HT_.out (by kernel_rfl)) (fun _ _ _ h => h) (Or.inl ⟨by rfl, ?_⟩) ?_ ?_
    rotate_left
    · intro w'
      go_simp
      with_reducible rfl
    rotate_left
    · simp only [Act.put, List.setIfInBounds_toArray, List.set_cons_zero, List.set_cons_succ]
      rfl
    refine pure_ (i := 9) (N := (some 18)) (v := ?_) (a' := ?_) #[true, true, true, false, true, true, true, true, true, true, false, false, false, false, false, false, false] rfl rfl (any_of HT_.out (by kernel_rfl)) (fun _ _ _ h => h) (Or.inl ⟨by rfl, ?_⟩) ?_ ?_
    rotate_left
    · intro w'
      go_simp
      with_reducible rfl
    rotate_left
    · simp only [Act.put, List.setIfInBounds_toArray, List.set_cons_zero, List.set_cons_succ]
      rfl
    refine pure_ (i := 11) (N := (some 20)) (v := ?_) (a' := ?_) #[true, true, true, false, true, true, true, true, true, true, false, true, false, false, false, false, false] rfl rfl (any_of HT_.out (by kernel_rfl)) (fun _ _ _ h => h) (Or.inl ⟨by rfl, ?_⟩) ?_ ?_
    rotate_left
    · intro w'
      go_simp
      with_reducible rfl
    rotate_left
    · simp only [Act.put, List.setIfInBounds_toArray, List.set_cons_zero, List.set_cons_succ]
      rfl
    refine pure_ (i := 12) (N := (some 21)) (v := ?_) (a' := ?_) #[true, true, true, false, true, true, true, true, true, true, false, true, true, false, false, false, false] rfl rfl (any_of HT_.out (by kernel_rfl)) (fun _ _ _ h => h) (Or.inl ⟨by rfl, ?_⟩) ?_ ?_
    rotate_left
    · intro w'
      go_simp
      with_reducible rfl
    rotate_left
    · simp only [Act.put, List.setIfInBounds_toArray, List.set_cons_zero, List.set_cons_succ]
      rfl
    refine two_ (i := 3) (j := 13) (Ni := (some 12)) (Nj := (some 22)) #[true, true, true, true, true, true, true, true, true, true, false, true, true, false, false, false, false] #[true, true, true, false, true, true, true, true, true, true, false, true, true, true, false, false, false] rfl rfl rfl rfl (two_of HT_.out (by kernel_rfl)) (by decide) (by decide) (fun K hK => ?_) (fun K hK => ?_)
    · skip
      refine call_ 81 #[.int .u64 r.p, .int .i64 8] (by rfl) rfl (by go_simp) ?_
      refine (number81_any r.p 8 _ (by omega) (by omega)).mono ?_
      rw [putL_8 r.p (by omega)]
      rintro e w2 ⟨v2, rfl, ho2, hb2⟩
      obtain ⟨A2, k2, rfl, -⟩ := ho2.reads.form
      refine ⟨_, rfl, ?_⟩
      refine hK.out _ _ (hHeld.below hb2) (fun hHeld => ?_)
      clear hK K
      refine norm_ (a' := ?_) ?_ ?_
      rotate_left
      · show Act.put _ (some 12) _ = _
        simp only [Act.put, List.setIfInBounds_toArray, List.set_cons_zero, List.set_cons_succ]
        rfl
      refine two_ (i := 10) (j := 13) (Ni := (some 19)) (Nj := (some 22)) #[true, true, true, true, true, true, true, true, true, true, true, true, true, false, false, false, false] #[true, true, true, true, true, true, true, true, true, true, false, true, true, true, false, false, false] rfl rfl rfl rfl (two_of HT_.out (by kernel_rfl)) (by decide) (by decide) (fun K hK => ?_) (fun K hK => ?_)
      · skip
        refine call_ 81 #[.int .u64 (r.b + r.i), .int .i64 4] (by rfl) rfl (by go_simp) ?_
        refine (number81_any (r.b + r.i) 4 _ (by omega) (by omega)).mono ?_
        rw [putL_4 (r.b + r.i) (by omega)]
        rintro e w3 ⟨v3, rfl, ho3, hb3⟩
        obtain ⟨A3, k3, rfl, -⟩ := ho3.reads.form
        refine ⟨_, rfl, ?_⟩
        refine hK.out _ _ (hHeld.below hb3) (fun hHeld => ?_)
        clear hK K
        refine norm_ (a' := ?_) ?_ ?_
        rotate_left
        · show Act.put _ (some 19) _ = _
          simp only [Act.put, List.setIfInBounds_toArray, List.set_cons_zero, List.set_cons_succ]
          rfl
        refine one_ (i := 13) (N := (some 22)) #[true, true, true, true, true, true, true, true, true, true, true, true, true, true, false, false, false] rfl rfl (one_of HT_.out (by kernel_rfl)) (by decide) (fun K hK => ?_)
        refine value_ (w1 := ?_) (v := ?_) (by rfl) rfl ?_ ?_
        rotate_left 2
        · go_simp
          constructor
          · rfl
          · rfl
        refine hK.out _ _ (hHeld.alloc _) (fun hHeld => ?_)
        clear hK K
        refine norm_ (a' := ?_) ?_ ?_
        rotate_left
        · show Act.put _ (some 22) _ = _
          simp only [Act.put, List.setIfInBounds_toArray, List.set_cons_zero, List.set_cons_succ]
          rfl
        have hR0 := (RBs.five (t := 25) ((((hd0.out).below hb2).below hb3).below (below_alloc (Below.refl _ _) (.cells (madeCells #[.int .u8 0] 12) 5))) (((ho2.reads).below hb3).below (below_alloc (Below.refl _ _) (.cells (madeCells #[.int .u8 0] 12) 5))) ((ho3.reads).below (below_alloc (Below.refl _ _) (.cells (madeCells #[.int .u8 0] 12) 5))) ((((hv0.out).below hb2).below hb3).below (below_alloc (Below.refl _ _) (.cells (madeCells #[.int .u8 0] 12) 5))) ((ob_made w3 0 12 (Nat.zero_le _) (by omega)).reads))
        simp only [World.size_alloc] at hR0
        have hR := Lib.hid hR0
        clear hR0
        have hB := Lib.hid (below_alloc (below_then (below_then (hb0.out) hb2) hb3) (.cells (madeCells #[.int .u8 0] 12) 5))
        clear ho2 ho3 hb2 hb3 hb0 hd0 hv0 hmk
        refine one_ (i := 14) (N := (some 23)) #[true, true, true, true, true, true, true, true, true, true, true, true, true, true, true, false, false] rfl rfl (one_of HT_.out (by kernel_rfl)) (by decide) (fun K hK => ?_)
        refine value_ (w1 := ?_) (v := ?_) (by rfl) rfl ?_ ?_
        rotate_left 2
        · go_simp
          constructor
          · rfl
          · rfl
        refine hK.out _ _ (hHeld.alloc _) (fun hHeld => ?_)
        clear hK K
        refine norm_ (a' := ?_) ?_ ?_
        rotate_left
        · show Act.put _ (some 23) _ = _
          simp only [Act.put, List.setIfInBounds_toArray, List.set_cons_zero, List.set_cons_succ]
          rfl
        refine one_ (i := 15) (N := (some 24)) #[true, true, true, true, true, true, true, true, true, true, true, true, true, true, true, true, false] rfl rfl (one_of HT_.out (by kernel_rfl)) (by decide) (fun K hK => ?_)
        refine call_ 79 _ (by rfl) rfl (by go_simp; rfl) ?_
        refine (ojoin_any _ [[87, r.k, 0, 0], le 8 r.p, le 4 (r.b + r.i), r.v, List.replicate 12 0] _ hR.out hlen.out).mono ?_
        rintro e w5 ⟨v5, rfl, ho5, hb5⟩
        have hB5 := Lib.hid (below_then (below_alloc hB.out _) hb5)
        have ho5 := Lib.hid (ho5.lower (b2 := w.heap.size) (below_alloc hB.out _).size)
        refine ⟨_, rfl, ?_⟩
        refine hK.out _ _ (hHeld.below hb5) (fun hHeld => ?_)
        clear hK K
        refine norm_ (a' := ?_) ?_ ?_
        rotate_left
        · show Act.put _ (some 24) _ = _
          simp only [Act.put, List.setIfInBounds_toArray, List.set_cons_zero, List.set_cons_succ]
          rfl
        refine pure_ (i := 16) (N := (some 4)) (v := ?_) (a' := ?_) #[true, true, true, true, true, true, true, true, true, true, true, true, true, true, true, true, true] rfl rfl (any_of HT_.out (by kernel_rfl)) (fun _ _ _ h => h) (Or.inl ⟨by rfl, ?_⟩) ?_ ?_
        rotate_left
        · intro w'
          go_simp
          with_reducible rfl
        rotate_left
        · simp only [Act.put, List.setIfInBounds_toArray, List.set_cons_zero, List.set_cons_succ]
          rfl
        refine done_ (done_of HT_.out (by kernel_rfl)) ?_
        clear hb5 hR hB
        go_wp2_with fail
        go_meet
        case rel => exact ⟨ho5, hB5⟩
      · skip
        refine value_ (w1 := ?_) (v := ?_) (by rfl) rfl ?_ ?_
        rotate_left 2
        · go_simp
          constructor
          · rfl
          · rfl
        refine hK.out _ _ (hHeld.alloc _) (fun hHeld => ?_)
        clear hK K
        refine norm_ (a' := ?_) ?_ ?_
        rotate_left
        · show Act.put _ (some 22) _ = _
          simp only [Act.put, List.setIfInBounds_toArray, List.set_cons_zero, List.set_cons_succ]
          rfl
        refine one_ (i := 10) (N := (some 19)) #[true, true, true, true, true, true, true, true, true, true, true, true, true, true, false, false, false] rfl rfl (one_of HT_.out (by kernel_rfl)) (by decide) (fun K hK => ?_)
        refine call_ 81 #[.int .u64 (r.b + r.i), .int .i64 4] (by rfl) rfl (by go_simp) ?_
        refine (number81_any (r.b + r.i) 4 _ (by omega) (by omega)).mono ?_
        rw [putL_4 (r.b + r.i) (by omega)]
        rintro e w3 ⟨v3, rfl, ho3, hb3⟩
        obtain ⟨A3, k3, rfl, -⟩ := ho3.reads.form
        refine ⟨_, rfl, ?_⟩
        refine hK.out _ _ (hHeld.below hb3) (fun hHeld => ?_)
        clear hK K
        refine norm_ (a' := ?_) ?_ ?_
        rotate_left
        · show Act.put _ (some 19) _ = _
          simp only [Act.put, List.setIfInBounds_toArray, List.set_cons_zero, List.set_cons_succ]
          rfl
        have hR0 := (RBs.five (t := 25) ((((hd0.out).below hb2).below (below_alloc (Below.refl _ _) (.cells (madeCells #[.int .u8 0] 12) 5))).below hb3) (((ho2.reads).below (below_alloc (Below.refl _ _) (.cells (madeCells #[.int .u8 0] 12) 5))).below hb3) (ho3.reads) ((((hv0.out).below hb2).below (below_alloc (Below.refl _ _) (.cells (madeCells #[.int .u8 0] 12) 5))).below hb3) (((ob_made w2 0 12 (Nat.zero_le _) (by omega)).reads).below hb3))
        have hR := Lib.hid hR0
        clear hR0
        have hB := Lib.hid (below_then (below_alloc (below_then (hb0.out) hb2) (.cells (madeCells #[.int .u8 0] 12) 5)) hb3)
        clear ho2 ho3 hb2 hb3 hb0 hd0 hv0 hmk
        refine one_ (i := 14) (N := (some 23)) #[true, true, true, true, true, true, true, true, true, true, true, true, true, true, true, false, false] rfl rfl (one_of HT_.out (by kernel_rfl)) (by decide) (fun K hK => ?_)
        refine value_ (w1 := ?_) (v := ?_) (by rfl) rfl ?_ ?_
        rotate_left 2
        · go_simp
          constructor
          · rfl
          · rfl
        refine hK.out _ _ (hHeld.alloc _) (fun hHeld => ?_)
        clear hK K
        refine norm_ (a' := ?_) ?_ ?_
        rotate_left
        · show Act.put _ (some 23) _ = _
          simp only [Act.put, List.setIfInBounds_toArray, List.set_cons_zero, List.set_cons_succ]
          rfl
        refine one_ (i := 15) (N := (some 24)) #[true, true, true, true, true, true, true, true, true, true, true, true, true, true, true, true, false] rfl rfl (one_of HT_.out (by kernel_rfl)) (by decide) (fun K hK => ?_)
        refine call_ 79 _ (by rfl) rfl (by go_simp; rfl) ?_
        refine (ojoin_any _ [[87, r.k, 0, 0], le 8 r.p, le 4 (r.b + r.i), r.v, List.replicate 12 0] _ hR.out hlen.out).mono ?_
        rintro e w5 ⟨v5, rfl, ho5, hb5⟩
        have hB5 := Lib.hid (below_then (below_alloc hB.out _) hb5)
        have ho5 := Lib.hid (ho5.lower (b2 := w.heap.size) (below_alloc hB.out _).size)
        refine ⟨_, rfl, ?_⟩
        refine hK.out _ _ (hHeld.below hb5) (fun hHeld => ?_)
        clear hK K
        refine norm_ (a' := ?_) ?_ ?_
        rotate_left
        · show Act.put _ (some 24) _ = _
          simp only [Act.put, List.setIfInBounds_toArray, List.set_cons_zero, List.set_cons_succ]
          rfl
        refine pure_ (i := 16) (N := (some 4)) (v := ?_) (a' := ?_) #[true, true, true, true, true, true, true, true, true, true, true, true, true, true, true, true, true] rfl rfl (any_of HT_.out (by kernel_rfl)) (fun _ _ _ h => h) (Or.inl ⟨by rfl, ?_⟩) ?_ ?_
        rotate_left
        · intro w'
          go_simp
          with_reducible rfl
        rotate_left
        · simp only [Act.put, List.setIfInBounds_toArray, List.set_cons_zero, List.set_cons_succ]
          rfl
        refine done_ (done_of HT_.out (by kernel_rfl)) ?_
        clear hb5 hR hB
        go_wp2_with fail
        go_meet
        case rel => exact ⟨ho5, hB5⟩
    · skip
      refine value_ (w1 := ?_) (v := ?_) (by rfl) rfl ?_ ?_
      rotate_left 2
      · go_simp
        constructor
        · rfl
        · rfl
      refine hK.out _ _ (hHeld.alloc _) (fun hHeld => ?_)
      clear hK K
      refine norm_ (a' := ?_) ?_ ?_
      rotate_left
      · show Act.put _ (some 22) _ = _
        simp only [Act.put, List.setIfInBounds_toArray, List.set_cons_zero, List.set_cons_succ]
        rfl
      refine one_ (i := 3) (N := (some 12)) #[true, true, true, true, true, true, true, true, true, true, false, true, true, true, false, false, false] rfl rfl (one_of HT_.out (by kernel_rfl)) (by decide) (fun K hK => ?_)
      refine call_ 81 #[.int .u64 r.p, .int .i64 8] (by rfl) rfl (by go_simp) ?_
      refine (number81_any r.p 8 _ (by omega) (by omega)).mono ?_
      rw [putL_8 r.p (by omega)]
      rintro e w2 ⟨v2, rfl, ho2, hb2⟩
      obtain ⟨A2, k2, rfl, -⟩ := ho2.reads.form
      refine ⟨_, rfl, ?_⟩
      refine hK.out _ _ (hHeld.below hb2) (fun hHeld => ?_)
      clear hK K
      refine norm_ (a' := ?_) ?_ ?_
      rotate_left
      · show Act.put _ (some 12) _ = _
        simp only [Act.put, List.setIfInBounds_toArray, List.set_cons_zero, List.set_cons_succ]
        rfl
      refine one_ (i := 10) (N := (some 19)) #[true, true, true, true, true, true, true, true, true, true, true, true, true, true, false, false, false] rfl rfl (one_of HT_.out (by kernel_rfl)) (by decide) (fun K hK => ?_)
      refine call_ 81 #[.int .u64 (r.b + r.i), .int .i64 4] (by rfl) rfl (by go_simp) ?_
      refine (number81_any (r.b + r.i) 4 _ (by omega) (by omega)).mono ?_
      rw [putL_4 (r.b + r.i) (by omega)]
      rintro e w3 ⟨v3, rfl, ho3, hb3⟩
      obtain ⟨A3, k3, rfl, -⟩ := ho3.reads.form
      refine ⟨_, rfl, ?_⟩
      refine hK.out _ _ (hHeld.below hb3) (fun hHeld => ?_)
      clear hK K
      refine norm_ (a' := ?_) ?_ ?_
      rotate_left
      · show Act.put _ (some 19) _ = _
        simp only [Act.put, List.setIfInBounds_toArray, List.set_cons_zero, List.set_cons_succ]
        rfl
      have hR0 := (RBs.five (t := 25) ((((hd0.out).below (below_alloc (Below.refl _ _) (.cells (madeCells #[.int .u8 0] 12) 5))).below hb2).below hb3) ((ho2.reads).below hb3) (ho3.reads) ((((hv0.out).below (below_alloc (Below.refl _ _) (.cells (madeCells #[.int .u8 0] 12) 5))).below hb2).below hb3) ((((ob_made w0 0 12 (Nat.zero_le _) (by omega)).reads).below hb2).below hb3))
      have hR := Lib.hid hR0
      clear hR0
      have hB := Lib.hid (below_then (below_then (below_alloc (hb0.out) (.cells (madeCells #[.int .u8 0] 12) 5)) hb2) hb3)
      clear ho2 ho3 hb2 hb3 hb0 hd0 hv0 hmk
      refine one_ (i := 14) (N := (some 23)) #[true, true, true, true, true, true, true, true, true, true, true, true, true, true, true, false, false] rfl rfl (one_of HT_.out (by kernel_rfl)) (by decide) (fun K hK => ?_)
      refine value_ (w1 := ?_) (v := ?_) (by rfl) rfl ?_ ?_
      rotate_left 2
      · go_simp
        constructor
        · rfl
        · rfl
      refine hK.out _ _ (hHeld.alloc _) (fun hHeld => ?_)
      clear hK K
      refine norm_ (a' := ?_) ?_ ?_
      rotate_left
      · show Act.put _ (some 23) _ = _
        simp only [Act.put, List.setIfInBounds_toArray, List.set_cons_zero, List.set_cons_succ]
        rfl
      refine one_ (i := 15) (N := (some 24)) #[true, true, true, true, true, true, true, true, true, true, true, true, true, true, true, true, false] rfl rfl (one_of HT_.out (by kernel_rfl)) (by decide) (fun K hK => ?_)
      refine call_ 79 _ (by rfl) rfl (by go_simp; rfl) ?_
      refine (ojoin_any _ [[87, r.k, 0, 0], le 8 r.p, le 4 (r.b + r.i), r.v, List.replicate 12 0] _ hR.out hlen.out).mono ?_
      rintro e w5 ⟨v5, rfl, ho5, hb5⟩
      have hB5 := Lib.hid (below_then (below_alloc hB.out _) hb5)
      have ho5 := Lib.hid (ho5.lower (b2 := w.heap.size) (below_alloc hB.out _).size)
      refine ⟨_, rfl, ?_⟩
      refine hK.out _ _ (hHeld.below hb5) (fun hHeld => ?_)
      clear hK K
      refine norm_ (a' := ?_) ?_ ?_
      rotate_left
      · show Act.put _ (some 24) _ = _
        simp only [Act.put, List.setIfInBounds_toArray, List.set_cons_zero, List.set_cons_succ]
        rfl
      refine pure_ (i := 16) (N := (some 4)) (v := ?_) (a' := ?_) #[true, true, true, true, true, true, true, true, true, true, true, true, true, true, true, true, true] rfl rfl (any_of HT_.out (by kernel_rfl)) (fun _ _ _ h => h) (Or.inl ⟨by rfl, ?_⟩) ?_ ?_
      rotate_left
      · intro w'
        go_simp
        with_reducible rfl
      rotate_left
      · simp only [Act.put, List.setIfInBounds_toArray, List.set_cons_zero, List.set_cons_succ]
        rfl
      refine done_ (done_of HT_.out (by kernel_rfl)) ?_
      clear hb5 hR hB
      go_wp2_with fail
      go_meet
      case rel => exact ⟨ho5, hB5⟩
  case rest =>
    obtain ⟨ho4, hb4⟩ := hcut
    clear hmk hsum hsum2 hb0 hd0 hv0 hS0 hlen HA Hd g0 g1 g2 g3
    have hL := bodyL_length hr.n
    obtain ⟨L, hLe⟩ : ∃ L, bodyL r = L := ⟨_, rfl⟩
    have HE : Hid (encL r = L ++ le 4 (sum L)) := Lib.hid (by rw [encL, hLe])
    rw [hLe] at ho4 hL
    clear hLe
    obtain ⟨A4, k4, rfl, -⟩ := ho4.out.reads.form
    have hsr := sum_range L
    rw [hL] at ho4 ⊢
    have HL := Lib.hid hL
    clear hL
    go_wp2_with fail
    refine (of_b _ [L] _ (RBs.one (heap_top _ _ _ rfl) (by decide) (ho4.out.reads.below (below_alloc (Below.refl _ _) _))) (Ht.out.below (below_alloc hb4.out _))).mono ?_
    rw [show [L].flatten = L by simp]
    obtain ⟨q, hq⟩ : ∃ q, sum L = q := ⟨_, rfl⟩
    rw [hq] at hsr HE ⊢
    clear hq
    rintro e w6 ⟨rfl, hb6⟩
    have hq6 := Lib.hid (below_then (below_alloc (Below.refl _ _) _) hb6)
    have hw6 := Lib.hid (below_then hb4.out hq6.out)
    have ho6 := Lib.hid (ho4.out.below hq6.out)
    clear hb6
    go_wp2_with fail
    refine (number81_any q 4 _ (by omega) (by omega)).mono ?_
    rw [putL_4 q (by omega)]
    rintro e w7 ⟨v7, rfl, ho7, hb7⟩
    obtain ⟨A7, k7, rfl, -⟩ := ho7.reads.form
    have hw7 := Lib.hid (below_then hw6.out hb7)
    have ho67 := Lib.hid (ho6.out.below hb7)
    have hl2 := Lib.hid (show [L, le 4 q].flatten.length ≤ 140737488355328 by simp [le_length, HL.out])
    have ho7 := Lib.hid ho7
    clear hb7
    go_wp2_with fail
    refine (ojoin_any _ [L, le 4 q] _ (RBs.two (heap_top _ _ _ rfl) (by decide) (ho67.out.reads.below (below_alloc (Below.refl _ _) _)) (ho7.out.reads.below (below_alloc (Below.refl _ _) _))) hl2.out).mono ?_
    rintro e w8 ⟨v8, rfl, ho8, hb8⟩
    have hB := Lib.hid (below_then (below_alloc hw7.out _) hb8)
    have ho8 := Lib.hid (ho8.lower (b2 := w.heap.size) (below_alloc hw7.out _).size)
    clear hb8
    go_wp2_with fail
    go_ret
    exact ⟨_, rfl, by have h9 := ho8.out; rw [HE.out]; simpa using h9, hB.out⟩
end Go.Proofs.YtblfmofhfbbmdaaDoor
