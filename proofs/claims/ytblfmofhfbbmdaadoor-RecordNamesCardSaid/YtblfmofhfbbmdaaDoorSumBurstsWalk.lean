/- The walk of the law SumBursts: it returns true, and nothing that was there has turned. -/
import Derived.Test.YtblfmofhfbbmdaaDoorFixed
import Derived.Test.YtblfmofhfbbmdaaDoorTurn
import Derived.BigRegion
set_option linter.unusedVariables false
set_option linter.unusedSimpArgs false
namespace Go.Proofs.YtblfmofhfbbmdaaDoor
open Go.RowKit Crc

theorem le4_form (s : Int) (h : 0 ≤ s ∧ s < 4294967296) : [s % 256, s / 256 % 256, s / 65536 % 256, s / 16777216] = le4 s := by
  have e : s / 16777216 = s / 16777216 % 256 := by omega
  conv => lhs; rw [e]
  simp [le4, Crc.byteOf]
theorem OB.drew {w : World} {base : Nat} {v : Value} {xs : List Int} (h : OB w base v xs) : OB w.drew base v xs := h
theorem isB_le4 (s : Int) : IsB (le4 s) := le4_byte s

/-- (at % n + n) % n, at any number. -/
theorem place_of (a : Int) (L : Nat) (m : Nat) (h4 : m ≤ L) (hm : 1 ≤ m) (hL : L ≤ 100000) : ∃ k : Nat, k < L - (m - 1) ∧ (wrap64 (a.tmod ((L : Int) - (m - 1 : Nat)) + ((L : Int) - (m - 1 : Nat)))).tmod ((L : Int) - (m - 1 : Nat)) = (k : Int) := by
  have hp : 0 < (L : Int) - (m - 1 : Nat) := by omega
  have h1 := Int.tmod_lt_of_pos a hp
  have h2 : -((L : Int) - (m - 1 : Nat)) < a.tmod ((L : Int) - (m - 1 : Nat)) := Int.lt_tmod_of_pos a hp
  generalize a.tmod ((L : Int) - (m - 1 : Nat)) = r at h1 h2
  rw [show wrap64 (r + ((L : Int) - (m - 1 : Nat))) = r + ((L : Int) - (m - 1 : Nat)) by unfold wrap64; omega]
  have h3 := Int.tmod_lt_of_pos (r + ((L : Int) - (m - 1 : Nat))) hp
  have h5 := Int.tmod_nonneg (b := (L : Int) - (m - 1 : Nat)) (a := r + ((L : Int) - (m - 1 : Nat))) (by omega)
  exact ⟨((r + ((L : Int) - (m - 1 : Nat))).tmod ((L : Int) - (m - 1 : Nat))).toNat, by omega, by omega⟩

set_option maxRecDepth 100000 in
set_option maxHeartbeats 4000000 in
theorem sumBursts_walk (vx : Value) (x : List Int) (at1 turn : Int) (w : World) (hx : RBy w vx x) (hxl : x.length ≤ reachBytes)
    (hat : -9223372036854775808 ≤ at1 ∧ at1 ≤ 9223372036854775807) (htu : 0 ≤ turn ∧ turn < 4294967296) (ht : Tab w) :
    Calls Tryd.prog 8 #[vx, .int .i64 at1, .int .u32 turn] w fun e w' => e = .returned (.bool true) ∧ Below w.heap.size w w' := by
  clear hxl
  go_enter Tryd.func8, Tryd.ntmps8
  go_wp2_with fail
  refine (fixed_any _ ht).mono ?_
  rintro e w1 ⟨rfl, hb1⟩
  go_wp2_with fail
  refine (some_any _ _ _ (hx.below hb1)).mono ?_
  rintro e w2 ⟨ux, rfl, hox, hb⟩
  have hb2 := below_then hb1 hb
  clear hb hb1 hx
  have hxl : (x.take 3000).length ≤ 3000 := by rw [List.length_take]; omega
  generalize x.take 3000 = x at hox hxl
  replace hox := hox.reads
  obtain ⟨Ax, cx, rfl, _, hxn, _⟩ := id hox
  go_wp2_with fail
  refine (of_b _ [x] _ ?_ ?_).mono ?_
  · exact RBs.one (heap_top _ _ _ rfl) (by decide) (hox.below (below_alloc (Below.refl _ _) _))
  · exact ht.below (below_alloc hb2 _)
  rintro e w3 ⟨rfl, hb⟩
  rw [show [x].flatten = x by simp]
  have hb3 := below_then (below_alloc hb2 _) hb
  have hq := below_then (below_alloc (Below.refl _ _) _) hb
  replace hox := hox.below hq
  clear hb hb2 hq
  have hsr := sum_range x
  have hres := sum_resid x
  have hxb := hox.isB
  generalize sum x = s at hsr hres
  have Hres := Lib.hid hres
  clear hres
  have hl4 := Lib.hid (le4_form s hsr)
  have hbl := isB_le4 s
  rw [← hl4.out] at hbl
  go_wp2_with (first
    | (at_builtin; refine wpList_app rfl (.tmp 20) (.tmp 21) 25 rfl Tryd.underlying25 info5 w3.heap.size (.slice (some ⟨w3.heap.size, 0, none⟩) 0 0) _ [] x rfl rfl (own_empty w3) (hox.below (below_alloc (Below.refl _ _) _)) (by simp; omega) (by simp) ?_; intro v' w4 ho4 hg4 _)
    | (at_builtin; refine wpList_app rfl (.tmp 22) (.tmp 34) 25 rfl Tryd.underlying25 info5 w3.heap.size v' _ ([] ++ x) [s % 256, s / 256 % 256, s / 65536 % 256, s / 16777216] rfl rfl (ho4.below (below_alloc (Below.refl _ _) _)) (RBy.row (heap_top _ _ _ rfl) _ hbl 4 (Nat.le_refl _) (by simp) rfl) (by simp; omega) (by have := hg4.size; simp at this ⊢; omega) ?_; intro v2 w5 ho5 hg5 _; rw [List.nil_append, hl4.out] at ho5; obtain ⟨whole, hwh⟩ : ∃ l, x ++ le4 s = l := ⟨_, rfl⟩; rw [hwh] at ho5; have hwl1 : 4 ≤ whole.length := (by rw [← hwh]; simp [le4]); have hwl2 : whole.length ≤ 3004 := (by rw [← hwh]; simp [le4]; omega); have Hwh := Lib.hid hwh; clear hwh; obtain ⟨gw, cw, rfl, hgw, hcw, hnw, _⟩ := ho5.form (by omega)))
  have hb4 : Below w.heap.size w w4 := below_grown (below_alloc hb3 _) (own_empty w3) hb3.size hg4
  have hb5 : Below w.heap.size w w5 := below_grown (below_alloc hb4 _) (ho4.below (below_alloc (Below.refl _ _) _)) hb3.size hg5
  clear hg4 hg5 hb3 hb4 ho4
  have hwb : ∀ y ∈ whole, 0 ≤ y ∧ y < 256 := ho5.2
  have Hw : Hid (sum whole = resid) := by rw [← Hwh.out]; exact Hres
  clear Hres Hwh hbl hox hl4
  clear hxn hxl
  refine (of_b _ [whole] _ ?_ ?_).mono ?_
  · exact RBs.one (heap_top _ _ _ rfl) (by decide) (ho5.reads.below (below_alloc (Below.refl _ _) _))
  · exact ht.below (below_alloc hb5 _)
  rintro e w6 ⟨rfl, hb⟩
  rw [show [whole].flatten = whole by simp, Hw.out, show resid = 558161692 from rfl]
  have hb6 := below_then (below_alloc hb5 _) hb
  have hq := below_then (below_alloc (Below.refl _ _) _) hb
  replace ho5 := ho5.below hq
  clear hb hb5 hq
  obtain ⟨k, hk1, hk2⟩ := place_of at1 whole.length 4 hwl1 (by omega) (by omega)
  have hk3 : k + 4 ≤ whole.length := by omega
  have Hk := Lib.hid hk2
  clear hk1 hk2
  go_wp2_with (at_builtin; refine wpList_app rfl (.tmp 50) (.tmp 51) 25 rfl Tryd.underlying25 info5 w6.heap.size (.slice (some ⟨w6.heap.size, 0, none⟩) 0 0) _ [] whole rfl rfl (own_empty w6) (ho5.reads.below (below_alloc (Below.refl _ _) _)) (by simp; omega) (by simp) ?_; intro v3 w7 ho7 hg7 _; rw [List.nil_append] at ho7; obtain ⟨go, co, rfl, hgo, hco, hno, _⟩ := ho7.form (by omega))
  have hb7 : Below w.heap.size w w7 := below_grown (below_alloc hb6 _) (own_empty w6) hb6.size hg7
  have hk2 := Hk.out
  rw [show (((4 - 1 : Nat) : Nat) : Int) = 3 from rfl] at hk2
  rw [hk2]
  clear hk2 hg7 ho5
  have hb6s := hb6.size
  clear hb6
  go_loopw [12] (fun i wr => ∃ j : Nat, j ≤ 4 ∧ i = .int .i64 j ∧ OB wr w6.heap.size (.slice (some ⟨go, 0, none⟩) whole.length co) (turnN turn k j whole) ∧ Below w.heap.size w wr) (fun i _ => 4 - (intOf i).toNat)
  case atStart => exact ⟨0, Nat.zero_le _, rfl, ho7, hb7⟩
  case round =>
    obtain ⟨j, hj, rfl, hor, hbr⟩ := hrel
    by_cases hlt : j < 4
    · have hlen := turnN_length turn k whole j
      have hc := hor.cell (k + j) (by rw [hlen]; omega)
      have hf := hor.free (k + j)
      have hcb : 0 ≤ (turnN turn k j whole)[k + j]?.getD 0 ∧ (turnN turn k j whole)[k + j]?.getD 0 < 256 := by
        rw [List.getElem?_eq_getElem (by rw [hlen]; omega)]
        exact hor.2 _ (List.getElem_mem _)
      generalize hcv : (turnN turn k j whole)[k + j]?.getD 0 = c at hc hcb
      have Hc := Lib.hid hcv
      have Hlen := Lib.hid hlen
      clear hcv hlen
      go_wp2_with fail
      go_region
      go_wp2
      go_roundw
      case rel =>
        refine ⟨j + 1, by omega, by go_num, ?_, (hbr.setCell (by show w.heap.size ≤ go; exact Nat.le_trans hb6s hgo) _).drew⟩
        have hs := hor.set (k + j) (by rw [Hlen.out]; omega) (x8 c (Crc.byteOf turn j)) (x8_byte c _ hcb (Crc.byteOf_byte _ _))
        rw [← Hc.out] at hs
        rw [← Hc.out]
        exact OB.drew hs
      case measure => simp [intOf]; omega
    · have h4 : j = 4 := by omega
      have H4 := Lib.hid h4
      clear h4
      have hsum : (sum (turnN turn k j whole) == 558161692) = (turn == 0) := by
        rw [H4.out, show (558161692 : Int) = sum whole from Hw.out.symm, Bool.eq_iff_iff, beq_iff_eq, beq_iff_eq]
        constructor
        · intro h
          exact sum_turn4 whole k turn hk3 hwb htu h
        · intro h
          rw [h, turnN_zero k whole hwb 4 hk3]
      have Hsum := Lib.hid hsum
      clear hsum
      have hlen := turnN_length turn k whole j
      have Hlen := Lib.hid hlen
      clear hlen
      generalize turnN turn k j whole = other at hor Hsum Hlen
      have hor2 := hor.reads
      go_wp2_with fail
      refine (of_b _ [other] _ ?_ ?_).mono ?_
      · exact RBs.one (heap_top _ _ _ rfl) (by decide) (hor2.below (below_alloc (Below.refl _ _) _))
      · exact ht.below (below_alloc hbr _)
      rintro e w8 ⟨rfl, hb⟩
      rw [show [other].flatten = other by simp]
      have hb8 := below_then (below_alloc hbr _) hb
      clear hb
      go_wp2_with fail
      go_ret
      exact ⟨by rw [Hsum.out]; simp, hb8⟩
end Go.Proofs.YtblfmofhfbbmdaaDoor
