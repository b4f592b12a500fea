/- The walk of the law SuperForged: it returns true, and nothing that was there has turned. -/
import Derived.Test.YtblfmofhfbbmdaaDoorSuperDecodesWalk
import Derived.Test.YtblfmofhfbbmdaaDoorSumBurstsWalk
set_option linter.unusedVariables false
set_option linter.unusedSimpArgs false
namespace Go.Proofs.YtblfmofhfbbmdaaDoor
open Go.RowKit Crc

theorem place60 (a : Int) : ∃ k : Nat, k < 60 ∧ (wrap64 (a.tmod 60 + 60)).tmod 60 = (k : Int) := by
  obtain ⟨k, h1, h2⟩ := place_of a 60 1 (by omega) (by omega) (by omega)
  exact ⟨k, by omega, h2⟩
set_option maxRecDepth 100000 in
set_option maxHeartbeats 8000000 in
theorem superForged_sup (s : Sup) (at1 x : Int) (w : World) (hs : s.ok) (hat : -9223372036854775808 ≤ at1 ∧ at1 ≤ 9223372036854775807) (hx : 0 ≤ x ∧ x < 256) (ht : Tabs w) :
    Calls Tryd.prog 18 #[.agg s.cells, .int .i64 at1, .int .u8 x] w fun e w' => e = .returned (.bool true) ∧ Below w.heap.size w w' := by
  have Ht := Lib.hid ht
  have HA := Lib.hid (SAt.new 51 w s)
  have hb0 := Lib.hid (below_alloc (Below.refl w.heap.size w) (.cells s.cells 51))
  have hTb : Hid (∀ w', Below w.heap.size w w' → Tabs w') := Lib.hid fun w' hb => ⟨Ht.out.1.below hb, Ht.out.2.below hb⟩
  clear ht
  go_enter Tryd.func18, Tryd.ntmps18
  go_wp2_with (first
    | (refine go_value (o := ⟨some 11, _, _, _, _, _⟩) (by rfl) (ex_load HA.out.load51 rfl rfl) ?_)
    | fail)
  refine (slaid_any s _ hs).mono ?_
  rintro e w1 ⟨v1, rfl, ho1, hb1⟩
  have hl1 := enc7_length (lowS s)
  obtain ⟨M, hM⟩ : ∃ M, enc7 (lowS s) = M := ⟨_, rfl⟩
  rw [hM] at ho1 hl1
  clear hM
  obtain ⟨g, c, rfl, hg1, hc1, -, -⟩ := ho1.form (by omega)
  rw [hl1] at ho1 hc1 ⊢
  have HA1 := Lib.hid (HA.out.below hb1)
  have hgA : w.heap.size < g := by have := HA.out.lt; omega
  have ho1' := ho1.lower (b2 := w.heap.size) hb0.out.size
  have hb1' := below_then hb0.out hb1
  clear ho1 hb1 HA hg1
  obtain ⟨k, hk1, hk2⟩ := place60 at1
  have Hk := Lib.hid hk2
  have hcell := ho1'.cell k (by omega)
  have hfree := ho1'.free k
  have hcb := isB_at ho1'.2 k
  have Hset := fun u hu => ho1'.set k (by omega) u hu
  generalize M[k]?.getD 0 = c0 at hcell hcb
  clear hk2
  go_wp2_with (first
    | (rw [Hk.out])
    | fail)
  have hx8 : bits .xor .u8 c0 x = x8 c0 x := rfl
  have hset := Hset (bits .xor .u8 c0 x) (by rw [hx8]; exact x8_byte c0 x hcb hx)
  have hbs : Below w.heap.size w (w1.setCell ⟨g, k, none⟩ (.int .u8 (bits .xor .u8 c0 x))) := hb1'.setCell (by show w.heap.size ≤ g; omega) _
  have HA2 := Lib.hid (show SAt 51 (w1.setCell ⟨g, k, none⟩ (.int .u8 (bits .xor .u8 c0 x))) w.heap.size s from (heap_setCell_other w1 ⟨g, k, none⟩ w.heap.size _ (by show w.heap.size ≠ g; omega)).trans HA1.out)
  have hl2 : (M.set k (bits .xor .u8 c0 x)).length = 64 := by simpa using hl1
  generalize M.set k (bits .xor .u8 c0 x) = N at hset hl2
  generalize w1.setCell ⟨g, k, none⟩ (.int .u8 (bits .xor .u8 c0 x)) = w2 at hset hbs HA2 ⊢
  clear hx8 Hset hcell hfree hcb ho1' hb1' HA1 hl1
  have hr60 := hset.reads.first (m := 60) (by omega)
  refine (ssum_any _ _ _ hr60).mono ?_
  rintro e w' ⟨rfl, rfl⟩
  have hsr := sum_range (N.take 60)
  generalize sum (N.take 60) = z at hsr
  clear hr60
  go_wp2_with fail
  go_loopw [10] (fun i wr => ∃ (j : Nat) (L : List Int), j ≤ 4 ∧ i = .int .i64 j ∧ L.length = 64 ∧ OB wr w.heap.size (.slice (some ⟨g, 0, none⟩) 64 c) L ∧ Below w.heap.size w wr ∧ Hid (SAt 51 wr w.heap.size s)) (fun i _ => 4 - (intOf i).toNat)
  case atStart => exact ⟨0, N, Nat.zero_le _, rfl, hl2, hset, hbs, HA2⟩
  case round =>
    clear hset hbs HA2 hl2
    obtain ⟨j, L, hj, rfl, hL, hor, hbr, HAr⟩ := hrel
    by_cases hlt : j < 4
    · have hc := hor.cell (60 + j) (by omega)
      have hf := hor.free (60 + j)
      generalize L[60 + j]?.getD 0 = c9 at hc
      go_wp2_with fail
      go_roundw
      case rel =>
        refine ⟨j + 1, L.set (60 + j) (Crc.byteOf z j), by omega, by go_num, by simpa using hL, ?_, hbr.setCell (by show w.heap.size ≤ g; omega) _, Lib.hid ((heap_setCell_other wr ⟨g, 60 + j, none⟩ w.heap.size _ (by show w.heap.size ≠ g; omega)).trans HAr.out)⟩
        exact hor.set (60 + j) (by omega) (Crc.byteOf z j) (Crc.byteOf_byte _ _)
      case measure => simp [intOf]; omega
    · have Ht4 := Lib.hid (hTb.out _ hbr)
      go_wp2_with fail
      refine (superDecodes_walk _ L _ hor.reads (by rw [hL]; unfold reachBytes; omega) Ht4.out).mono ?_
      rintro e w5 ⟨rfl, hb5⟩
      have HA5 := Lib.hid (HAr.out.below hb5)
      have hb5' := below_then hbr hb5
      clear hb5
      go_wp2_with (first
        | (refine go_value (o := ⟨some 45, _, _, _, _, _⟩) (by rfl) (ex_load HA5.out.load51 rfl rfl) ?_)
        | fail)
      refine (slaid_any s _ hs).mono ?_
      rintro e w6 ⟨v6, rfl, ho6, hb6⟩
      have hb6' := below_then hb5' hb6
      go_wp2_with fail
      refine (superDecodes_walk _ (enc7 (lowS s)) _ ho6.reads (by rw [enc7_length]; unfold reachBytes; omega) (hTb.out _ hb6')).mono ?_
      rintro e w7 ⟨rfl, hb7⟩
      go_wp2_with fail
      go_ret
      exact ⟨rfl, below_then hb6' hb7⟩
theorem superForged_walk (v : Value) (s : Sup) (at1 x : Int) (w : World) (hv : v = .agg s.cells ∧ s.ok) (hat : -9223372036854775808 ≤ at1 ∧ at1 ≤ 9223372036854775807) (hx : 0 ≤ x ∧ x < 256) (ht : Tabs w) :
    Calls Tryd.prog 18 #[v, .int .i64 at1, .int .u8 x] w fun e w' => e = .returned (.bool true) ∧ Below w.heap.size w w' := by
  obtain ⟨rfl, hs⟩ := hv
  exact superForged_sup s at1 x w hs hat hx ht
end Go.Proofs.YtblfmofhfbbmdaaDoor
