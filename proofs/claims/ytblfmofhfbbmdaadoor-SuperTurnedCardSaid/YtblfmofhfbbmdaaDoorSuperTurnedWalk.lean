/- The walk of the law SuperTurned: it returns true, and nothing that was there has turned. -/
import Derived.Test.YtblfmofhfbbmdaaDoorSuperDecodesWalk
import Derived.Test.YtblfmofhfbbmdaaDoorSumBurstsWalk
import Derived.Test.YtblfmofhfbbmdaaDoorSup3
set_option linter.unusedVariables false
set_option linter.unusedSimpArgs false
namespace Go.Proofs.YtblfmofhfbbmdaaDoor
open Go.RowKit Crc

theorem le_four' (s : Int) : le 4 s = le4 s := by simp [le, le4, Crc.byteOf, List.range_succ]
theorem sum_enc7 (s : Sup) : sum (enc7 s) = resid := by rw [enc7, le_four']; exact sum_resid _
/-- Four bytes side by side that are turned are told. -/
theorem sturned_told (s : Sup) (h : SupOk s) (k : Nat) (t : Int) (h4 : k + 4 ≤ 64) (ht : 0 ≤ t ∧ t < 4294967296) (hne : t ≠ 0) : sdecV (turnN t k 4 (enc7 s)) = Sup.zero ∧ sdecE (turnN t k 4 (enc7 s)) = 70 := by
  have hl : (turnN t k 4 (enc7 s)).length = 64 := (turnN_length t k (enc7 s) 4).trans (enc7_length s)
  have hd : ¬ sdecOk (turnN t k 4 (enc7 s)) := fun hd => by
    have e := sum_enc7 (sdecR (turnN t k 4 (enc7 s)))
    rw [hd.2.2] at e
    exact hne (sum_turn4 (enc7 s) k t (by rw [enc7_length]; exact h4) (enc7_isB h) ht (e.trans (sum_enc7 s).symm))
  exact ⟨if_neg hd, by rw [sdecE, if_pos hl, if_neg hd]⟩
set_option maxRecDepth 100000 in
set_option maxHeartbeats 8000000 in
theorem superTurned_sup (s : Sup) (at1 x : Int) (w : World) (hs : s.ok) (hat : -9223372036854775808 ≤ at1 ∧ at1 ≤ 9223372036854775807) (hx : 0 ≤ x ∧ x < 4294967296) (ht : Tabs w) :
    Calls Tryd.prog 9 #[.agg s.cells, .int .i64 at1, .int .u32 x] w fun e w' => e = .returned (.bool true) ∧ Below w.heap.size w w' := by
  have Ht := Lib.hid ht.1
  have Hw := Lib.hid ht.2
  have HA := Lib.hid (SAt.new 51 w s)
  have hb0 := Lib.hid (below_alloc (Below.refl w.heap.size w) (.cells s.cells 51))
  have hmk := mayS_sup s
  have hmo := mayS_ok s
  clear ht
  go_enter Tryd.func9, Tryd.ntmps9
  go_wp2_with fail
  refine (awake_any _ (Ht.out.below hb0.out) (Hw.out.below hb0.out)).mono ?_
  rintro e w1 ⟨rfl, hb1⟩
  have HA1 := Lib.hid (HA.out.below hb1)
  have hb1' := below_then hb0.out hb1
  clear hb1 HA
  go_wp2_with (first
    | (refine go_value (o := ⟨some 16, _, _, _, _, _⟩) (by rfl) (ex_load HA1.out.load51 rfl rfl) ?_)
    | fail)
  refine (may_any s _ hs).mono ?_
  rintro e w2 ⟨rfl, hb2⟩
  have hb2' := below_then hb1' hb2
  clear hb2 hb1' HA1
  obtain ⟨S, hS⟩ : ∃ S, mayS s = S := ⟨_, rfl⟩
  rw [hS] at hmk hmo ⊢
  clear hS
  go_wp2_with fail
  refine (sencode_any S _ hmo (Ht.out.below hb2') (Hw.out.below hb2')).mono ?_
  rw [supE_ok hmk, show encS S = enc7 S from if_pos hmk]
  rintro e w3 ⟨v1, rfl, ho1, hb3⟩
  obtain ⟨gb, cb, rfl, hgb0, hcb, -, -⟩ := ho1.form (by rw [enc7_length]; omega)
  rw [enc7_length] at ho1 hcb ⊢
  have Hgb : Hid (w.heap.size ≤ gb) := Lib.hid (Nat.le_trans hb2'.size hgb0)
  have Ho5 : Hid (OB w3 w.heap.size (.slice (some ⟨gb, 0, none⟩) 64 cb) (enc7 S)) := Lib.hid (ho1.lower hb2'.size)
  have Hb5 := Lib.hid (below_then hb2' hb3)
  have Hlen : Hid ((enc7 S).length = 64) := Lib.hid (enc7_length S)
  have Htold : Hid (∀ (k : Nat) (t : Int), k + 4 ≤ 64 → 0 ≤ t ∧ t < 4294967296 → t ≠ 0 → sdecV (turnN t k 4 (enc7 S)) = Sup.zero ∧ sdecE (turnN t k 4 (enc7 S)) = 70) := Lib.hid fun k t h4 h5 h6 => sturned_told S hmk k t h4 h5 h6
  clear ho1 hb3 hb2' hgb0
  generalize enc7 S = L1 at Ho5 Hlen Htold
  by_cases h0 : x = 0
  · subst h0
    have htu : (0 : Int) ≤ 1 ∧ (1 : Int) < 4294967296 := by omega
    have hne : (1 : Int) ≠ 0 := by omega
    obtain ⟨k, hk1, hk2⟩ := place_of at1 64 4 (by omega) (by omega) (by omega)
    have hk3 : k + 4 ≤ 64 := by omega
    have hk4 : (wrap64 (at1.tmod 61 + 61)).tmod 61 = (k : Int) := hk2
    have Hk4 := Lib.hid hk4
    have Hk3 := Lib.hid hk3
    clear hk1 hk2 hk4
    go_wp2_with (first
      | (go_at_call 34; (with_reducible refine (snum_any _ _).mono ?_); rintro e w' ⟨rfl, rfl⟩)
      | fail)
    rw [Hk4.out]
    go_loopw [10] (fun i wr => ∃ j : Nat, j ≤ 4 ∧ i = .int .i64 j ∧ OB wr w.heap.size (.slice (some ⟨gb, 0, none⟩) 64 cb) (turnN (1) k j L1) ∧ Below w.heap.size w wr) (fun i _ => 4 - (intOf i).toNat)
    case atStart => exact ⟨0, Nat.zero_le _, rfl, Ho5.out, Hb5.out⟩
    case round =>
      obtain ⟨j, hj, rfl, hor, hbr⟩ := hrel
      by_cases hlt : j < 4
      · have hlen := (turnN_length (1) k L1 j).trans Hlen.out
        have hc := hor.cell (k + j) (by rw [hlen]; omega)
        have hf := hor.free (k + j)
        have hcb2 : 0 ≤ (turnN (1) k j L1)[k + j]?.getD 0 ∧ (turnN (1) k j L1)[k + j]?.getD 0 < 256 := by
          rw [List.getElem?_eq_getElem (by rw [hlen]; omega)]
          exact hor.2 _ (List.getElem_mem _)
        generalize hcv : (turnN (1) k j L1)[k + j]?.getD 0 = c at hc hcb2
        have Hc := Lib.hid hcv
        have Hlen2 := Lib.hid hlen
        clear hcv hlen
        go_wp2_with fail
        go_region
        go_wp2
        go_roundw
        case rel =>
          refine ⟨j + 1, by omega, by go_num, ?_, (hbr.setCell Hgb.out _).drew⟩
          have hs := hor.set (k + j) (by rw [Hlen2.out]; omega) (x8 c (Crc.byteOf (1) j)) (x8_byte c _ hcb2 (Crc.byteOf_byte _ _))
          rw [← Hc.out] at hs
          rw [← Hc.out]
          exact OB.drew hs
        case measure => simp [intOf]; omega
      · have h4 : j = 4 := by omega
        subst h4
        have Ht8 := Lib.hid (Ht.out.below hbr)
        have Hw8 := Lib.hid (Hw.out.below hbr)
        go_wp2_with fail
        refine (sdec_any _ (turnN (1) k 4 L1) _ hor.reads Ht8.out Hw8.out).mono ?_
        rw [(Htold.out k (1) Hk3.out htu hne).1, (Htold.out k (1) Hk3.out htu hne).2]
        rintro e w8 ⟨rfl, hb8⟩
        have hv8 := svar_made 54 w8 Sup.zero
        have HZ8 := Lib.hid (SAt.new 54 w8 Sup.zero)
        have HV8 := Lib.hid hv8.1
        have Hb8 := Lib.hid (below_then hbr (below_then hb8 hv8.2))
        clear hv8 hb8
        go_upto_region 14 with (first
          | (refine go_value (o := ⟨_, .alloc 54, _, _, _, _⟩) (by rfl) (ex_alloc (run_alloc54 _) rfl) ?_)
          | (refine go_skip (o := ⟨none, .store 54 _ _, _, _, _, _⟩) (by rfl) (ex_store (HZ8.out.store54 (s := Sup.zero)) rfl rfl rfl) ?_)
          | fail)
        generalize hg8 : w8.heap.size = g8 at HV8 Hb8 ⊢
        generalize (w8.alloc (.cells Sup.zero.cells 54)).setRow g8 Sup.zero.cells = w9 at HV8 Hb8 ⊢
        clear hg8 HZ8
        go_wp2_with (first
          | (refine go_value (o := ⟨some 65, _, _, _, _, _⟩) (by rfl) (ex_load HV8.out.load54 rfl rfl) ?_)
          | (refine go_value (o := ⟨some 66, _, _, _, _, _⟩) (by rfl) (ex_build b54_none rfl rfl) ?_)
          | (refine go_value (o := ⟨some 67, _, _, _, _, _⟩) (by rfl) (ex_bin (r := .bool true) (by have h9 := eql54 Sup.zero Sup.zero w9; rw [supEq_self] at h9; exact h9) rfl rfl rfl (run_eqGuard_agg _ _ _ _ _ _ _ noGuard54)) ?_)
          | (go_at_call 34; (with_reducible refine (snum_any _ _).mono ?_); rintro e w' ⟨rfl, rfl⟩))
        go_ret
        exact ⟨rfl, Hb8.out⟩
  · have htu := hx
    have hne := h0
    have h01 : (x == 0) = false := by simpa using h0
    have h02 : decide (x = 0) = false := by simpa using h0
    obtain ⟨k, hk1, hk2⟩ := place_of at1 64 4 (by omega) (by omega) (by omega)
    have hk3 : k + 4 ≤ 64 := by omega
    have hk4 : (wrap64 (at1.tmod 61 + 61)).tmod 61 = (k : Int) := hk2
    have Hk4 := Lib.hid hk4
    have Hk3 := Lib.hid hk3
    clear hk1 hk2 hk4
    go_wp2_with (first
      | (go_at_call 34; (with_reducible refine (snum_any _ _).mono ?_); rintro e w' ⟨rfl, rfl⟩)
      | fail)
    rw [Hk4.out]
    go_loopw [10] (fun i wr => ∃ j : Nat, j ≤ 4 ∧ i = .int .i64 j ∧ OB wr w.heap.size (.slice (some ⟨gb, 0, none⟩) 64 cb) (turnN (x) k j L1) ∧ Below w.heap.size w wr) (fun i _ => 4 - (intOf i).toNat)
    case atStart => exact ⟨0, Nat.zero_le _, rfl, Ho5.out, Hb5.out⟩
    case round =>
      obtain ⟨j, hj, rfl, hor, hbr⟩ := hrel
      by_cases hlt : j < 4
      · have hlen := (turnN_length (x) k L1 j).trans Hlen.out
        have hc := hor.cell (k + j) (by rw [hlen]; omega)
        have hf := hor.free (k + j)
        have hcb2 : 0 ≤ (turnN (x) k j L1)[k + j]?.getD 0 ∧ (turnN (x) k j L1)[k + j]?.getD 0 < 256 := by
          rw [List.getElem?_eq_getElem (by rw [hlen]; omega)]
          exact hor.2 _ (List.getElem_mem _)
        generalize hcv : (turnN (x) k j L1)[k + j]?.getD 0 = c at hc hcb2
        have Hc := Lib.hid hcv
        have Hlen2 := Lib.hid hlen
        clear hcv hlen
        go_wp2_with fail
        go_region
        go_wp2
        go_roundw
        case rel =>
          refine ⟨j + 1, by omega, by go_num, ?_, (hbr.setCell Hgb.out _).drew⟩
          have hs := hor.set (k + j) (by rw [Hlen2.out]; omega) (x8 c (Crc.byteOf (x) j)) (x8_byte c _ hcb2 (Crc.byteOf_byte _ _))
          rw [← Hc.out] at hs
          rw [← Hc.out]
          exact OB.drew hs
        case measure => simp [intOf]; omega
      · have h4 : j = 4 := by omega
        subst h4
        have Ht8 := Lib.hid (Ht.out.below hbr)
        have Hw8 := Lib.hid (Hw.out.below hbr)
        go_wp2_with fail
        refine (sdec_any _ (turnN (x) k 4 L1) _ hor.reads Ht8.out Hw8.out).mono ?_
        rw [(Htold.out k (x) Hk3.out htu hne).1, (Htold.out k (x) Hk3.out htu hne).2]
        rintro e w8 ⟨rfl, hb8⟩
        have hv8 := svar_made 54 w8 Sup.zero
        have HZ8 := Lib.hid (SAt.new 54 w8 Sup.zero)
        have HV8 := Lib.hid hv8.1
        have Hb8 := Lib.hid (below_then hbr (below_then hb8 hv8.2))
        clear hv8 hb8
        go_upto_region 14 with (first
          | (refine go_value (o := ⟨_, .alloc 54, _, _, _, _⟩) (by rfl) (ex_alloc (run_alloc54 _) rfl) ?_)
          | (refine go_skip (o := ⟨none, .store 54 _ _, _, _, _, _⟩) (by rfl) (ex_store (HZ8.out.store54 (s := Sup.zero)) rfl rfl rfl) ?_)
          | fail)
        generalize hg8 : w8.heap.size = g8 at HV8 Hb8 ⊢
        generalize (w8.alloc (.cells Sup.zero.cells 54)).setRow g8 Sup.zero.cells = w9 at HV8 Hb8 ⊢
        clear hg8 HZ8
        go_wp2_with (first
          | (refine go_value (o := ⟨some 65, _, _, _, _, _⟩) (by rfl) (ex_load HV8.out.load54 rfl rfl) ?_)
          | (refine go_value (o := ⟨some 66, _, _, _, _, _⟩) (by rfl) (ex_build b54_none rfl rfl) ?_)
          | (refine go_value (o := ⟨some 67, _, _, _, _, _⟩) (by rfl) (ex_bin (r := .bool true) (by have h9 := eql54 Sup.zero Sup.zero w9; rw [supEq_self] at h9; exact h9) rfl rfl rfl (run_eqGuard_agg _ _ _ _ _ _ _ noGuard54)) ?_)
          | (go_at_call 34; (with_reducible refine (snum_any _ _).mono ?_); rintro e w' ⟨rfl, rfl⟩))
        go_ret
        exact ⟨rfl, Hb8.out⟩
theorem superTurned_walk (v : Value) (s : Sup) (at1 x : Int) (w : World) (hv : v = .agg s.cells ∧ s.ok) (hat : -9223372036854775808 ≤ at1 ∧ at1 ≤ 9223372036854775807) (hx : 0 ≤ x ∧ x < 4294967296) (ht : Tabs w) :
    Calls Tryd.prog 9 #[v, .int .i64 at1, .int .u32 x] w fun e w' => e = .returned (.bool true) ∧ Below w.heap.size w w' := by
  obtain ⟨rfl, hs⟩ := hv
  exact superTurned_sup s at1 x w hs hat hx ht
end Go.Proofs.YtblfmofhfbbmdaaDoor
