/- The walk of the law RecordNames: the worked examples. -/
import Derived.Test.YtblfmofhfbbmdaaDoorRecC
import Derived.Great.BuildSlice
import Derived.Deep.MidRow
set_option linter.unusedVariables false
set_option linter.unusedSimpArgs false
namespace Go.Proofs.YtblfmofhfbbmdaaDoor
open Go.RowKit Crc

/-- The array of 32 bytes, the first j of them 255. -/
def fillN (j : Nat) : List Int := List.replicate j 255 ++ List.replicate (32 - j) 0
theorem fillN_length (j : Nat) (h : j ≤ 32) : (fillN j).length = 32 := by simp [fillN]; omega
theorem fillN_set (j : Nat) (h : j < 32) : (fillN j).set j 255 = fillN (j + 1) := by
  unfold fillN
  rw [List.set_append_right _ _ (by simp), List.length_replicate, Nat.sub_self, show 32 - j = (32 - (j + 1)) + 1 by omega, List.replicate_succ, List.set_cons_zero, show List.replicate (j + 1) (255 : Int) = List.replicate j 255 ++ [255] from List.replicate_succ', List.append_assoc]
  rfl
theorem run_alloc63 (w : World) : (Instr.alloc 63 true (.tuple #[])).run Tryd.prog w = .ok (.pointer (some ⟨w.heap.size, 0, none⟩)) (w.alloc (.cells (bytes (fillN 0)).toArray 63)) := by kernel_rfl
theorem bytes_set (xs : List Int) (j : Nat) (u : Int) : (bytes xs).set j (.int .u8 u) = bytes (xs.set j u) := by simp [bytes, List.map_set]
theorem load63 {w : World} {g : Nat} {v : List Int} (h : w.heap[g]? = some (.cells (bytes v).toArray 63 (0, 0))) (hl : v.length = 32) : (loadVar 63 ⟨g, 0, none⟩).run Tryd.prog w = .ok (.agg (bytes v).toArray) w :=
  run_loadVar_row w g 63 63 (bytes v).toArray (0, 0) _ h Tryd.underlying63 rfl (by rw [List.size_toArray, bytes_length, hl]; kernel_rfl)
def rF : Rec := ⟨1, 0, 63, fillN 32, 0⟩
theorem rF_n : rF.v.length = 32 := rfl
theorem b66_kb (k b : Int) (v : List Int) (h : v.length = 32) : Tryd.prog.built 66 [(0, .int .i64 k), (2, .int .i64 b), (3, .agg (bytes v).toArray)] = some (Rec.mk k 0 b v 0).cells := by
  obtain ⟨v0, v1, v2, v3, v4, v5, v6, v7, v8, v9, v10, v11, v12, v13, v14, v15, v16, v17, v18, v19, v20, v21, v22, v23, v24, v25, v26, v27, v28, v29, v30, v31, rfl⟩ := list32 v h
  kernel_rfl
theorem b66_kv (k : Int) (v : List Int) (h : v.length = 32) : Tryd.prog.built 66 [(0, .int .i64 k), (3, .agg (bytes v).toArray)] = some (Rec.mk k 0 0 v 0).cells := by
  obtain ⟨v0, v1, v2, v3, v4, v5, v6, v7, v8, v9, v10, v11, v12, v13, v14, v15, v16, v17, v18, v19, v20, v21, v22, v23, v24, v25, v26, v27, v28, v29, v30, v31, rfl⟩ := list32 v h
  kernel_rfl
theorem b66_k1 (k : Int) : Tryd.prog.built 66 [(0, .int .i64 k)] = some (Rec.mk k 0 0 zero32 0).cells := by kernel_rfl
theorem b66_ki (k i : Int) : Tryd.prog.built 66 [(0, .int .i64 k), (4, .int .i64 i)] = some (Rec.mk k 0 0 zero32 i).cells := by kernel_rfl
theorem b66_kb0 (k b : Int) : Tryd.prog.built 66 [(0, .int .i64 k), (2, .int .i64 b)] = some (Rec.mk k 0 b zero32 0).cells := by kernel_rfl
theorem rF_ok : rF.ok := ⟨by decide, by decide, by decide, isB_lit _ (by decide), rfl, by decide⟩
theorem rF_k : okRec rF = true := by decide
theorem rF_at : (encL rF)[12]?.getD 0 = 63 ∧ (encL rF)[13]?.getD 0 = 0 ∧ (encL rF)[16]?.getD 0 = 255 ∧ (encL rF)[47]?.getD 0 = 255 ∧ (encL rF)[48]?.getD 0 = 0 ∧ (encL rF)[4]?.getD 0 = 0 := by
  have e : encL rF = ([87, 1, 0, 0, 0, 0, 0, 0, 0, 0, 0, 0, 63, 0, 0, 0] ++ (fillN 32 ++ List.replicate 12 0)) ++ le 4 (sum (bodyL rF)) := by
    have hb : bodyL rF = [87, 1, 0, 0, 0, 0, 0, 0, 0, 0, 0, 0, 63, 0, 0, 0] ++ (fillN 32 ++ List.replicate 12 0) := by decide
    rw [encL]
    generalize le 4 (sum (bodyL rF)) = T
    rw [hb]
  rw [e]; exact ⟨rfl, rfl, rfl, rfl, rfl, rfl⟩
/-- The nine records that may not be. -/
def badL : List Rec := [⟨0, 0, 0, zero32, 0⟩, ⟨3, 0, 0, zero32, 0⟩, ⟨2, 0, 0, zero32, 17⟩, ⟨2, 0, 1, zero32, 0⟩, ⟨1, 0, 0, zero32, 1⟩, ⟨1, 0, 64, zero32, 0⟩, ⟨1, 0, -1, zero32, 0⟩, ⟨2, 4611686018427387905, 0, zero32, 0⟩, ⟨2, 0, 0, fillN 32, 0⟩]
def badCells : Array Value := (badL.flatMap fun r => r.cells.toList).toArray
def badParts : Array (Nat × Value) := #[(0, .agg (Rec.mk 0 0 0 zero32 0).cells), (1, .agg (Rec.mk 3 0 0 zero32 0).cells), (2, .agg (Rec.mk 2 0 0 zero32 17).cells), (3, .agg (Rec.mk 2 0 1 zero32 0).cells), (4, .agg (Rec.mk 1 0 0 zero32 1).cells), (5, .agg (Rec.mk 1 0 64 zero32 0).cells), (6, .agg (Rec.mk 1 0 (-1) zero32 0).cells), (7, .agg (Rec.mk 2 4611686018427387905 0 zero32 0).cells), (8, .agg (Rec.mk 2 0 0 (fillN 32) 0).cells)]
theorem run_bad (w : World) : (Instr.buildSlice 67 9 badParts).run Tryd.prog w = .ok (.slice (some ⟨w.heap.size, 0, none⟩) 9 9) (w.alloc (.cells badCells 66)) := by kernel_rfl
theorem bad_rows : (List.range 9).map (fun i => (badCells.extract (i * 36) (i * 36 + 36)).toList) = badL.map fun r => r.cells.toList := by kernel_rfl
theorem bad_row (i : Nat) (r : Rec) (h : badL[i]? = some r) : (badCells.extract (i * 36) (i * 36 + 36)).toList = r.cells.toList := by
  have hi : i < 9 := (List.getElem?_eq_some_iff.1 h).1
  have h9 := congrArg (fun l => l[i]?) bad_rows
  simp only [List.getElem?_map, h, List.getElem?_range hi, Option.map_some, Option.some.injEq] at h9
  exact h9
theorem bad_bad : ∀ r ∈ badL, okRec r = false := by decide
theorem z63_dec : decV (List.replicate 63 0) = Rec.zero ∧ decE (List.replicate 63 0) = 2 := by decide +kernel
theorem z65_dec : decV (List.replicate 65 0) = Rec.zero ∧ decE (List.replicate 65 0) = 2 := by decide +kernel
theorem bad_n : ∀ r ∈ badL, r.v.length = 32 := by decide
theorem bad_ok : ∀ r ∈ badL, r.ok := by
  intro r hr
  simp only [badL, List.mem_cons, List.not_mem_nil, or_false] at hr
  rcases hr with rfl | rfl | rfl | rfl | rfl | rfl | rfl | rfl | rfl
  all_goals exact ⟨by decide, by decide, by decide, isB_lit _ (by decide), rfl, by decide⟩
theorem bad_load {w : World} {g i : Nat} {r : Rec} (h : w.heap[g]? = some (.cells badCells 66 (0, 0))) (hi : badL[i]? = some r) : (loadVar 66 ⟨g, i * 36, none⟩).run Tryd.prog w = .ok (.agg r.cells) w := by
  have hr := World.rangeAt_of_block h (i * 36) 36
  rw [bad_row i r hi] at hr
  have hn := bad_n r (List.mem_of_getElem? hi)
  have := run_loadVar_mid (P := Tryd.prog) w g (i * 36) 66 r.cells.toList _ hr Tryd.underlying66 rfl (by rw [Array.length_toList, Rec.size hn]; kernel_rfl)
  simpa using this
section
variable {P : Program} {a : Act} {w w1 : World} {v : Value} {o : Oper}
theorem ex_buildSlice {t : TypeId} {len : Nat} {parts : Array (Nat × Operand)} {vals : Array (Nat × Value)} (h : (Instr.buildSlice t len vals).run P w = .ok v w1) (ho : o.op = .buildSlice t len parts) (hv : (parts.map fun (i, x) => (i, a.eval x)) = vals) : (execOp a.eval o).run P w = .ok (.value v) w1 := by
  subst hv
  unfold execOp
  simp only [ho, Sem.run_bind, h, Result.andThen_ok, Sem.run_pure]
end
set_option maxRecDepth 100000 in
set_option maxHeartbeats 4000000 in
theorem recordNames_walk (w : World) (ht : Tab w) : Calls Tryd.prog 11 #[] w fun e w' => e = .returned (.bool true) ∧ Below w.heap.size w w' := by
  have Ht := Lib.hid ht
  clear ht
  go_enter Tryd.func11, Tryd.ntmps11
  go_wp2_with fail
  refine (fixed6_any _ Ht.out).mono ?_
  rintro e w1 ⟨rfl, hb1⟩
  have H0 : Hid ((w1.alloc (.cells (bytes (fillN 0)).toArray 63)).heap[w1.heap.size]? = some (.cells (bytes (fillN 0)).toArray 63 (0, 0))) := Lib.hid (heap_alloc_new w1 _)
  have Hb0 := Lib.hid (below_alloc hb1 (.cells (bytes (fillN 0)).toArray 63))
  have hle1 := hb1.size
  clear hb1
  go_wp2_with (first
    | (refine go_value (o := ⟨_, .alloc 63, _, _, _, _⟩) (by rfl) (ex_alloc (run_alloc63 _) rfl) ?_)
    | fail)
  generalize hg1 : w1.heap.size = g1 at H0 Hb0 hle1 ⊢
  generalize w1.alloc (.cells (bytes (fillN 0)).toArray 63) = w2 at H0 Hb0 ⊢
  clear hg1
  go_loopw [2] (fun i wr => ∃ j : Nat, j ≤ 32 ∧ i = .int .i64 j ∧ Hid (wr.heap[g1]? = some (.cells (bytes (fillN j)).toArray 63 (0, 0))) ∧ Hid (Below w.heap.size w wr)) (fun i _ => 32 - (intOf i).toNat)
  case atStart => exact ⟨0, Nat.zero_le _, rfl, H0, Hb0⟩
  case round =>
    clear H0 Hb0
    obtain ⟨j, hj, rfl, HH, Hb⟩ := hrel
    by_cases hlt : j < 32
    · have hc : wr.cell? ⟨g1, j, none⟩ = some (.int .u8 ((fillN j)[j]?.getD 0)) := by
        rw [cell_of_row wr g1 j _ _ _ HH.out]
        simpa using bytes_get (fillN j) j (by rw [fillN_length j hj]; exact hlt)
      have hf := frozen_of_row wr g1 j _ _ HH.out
      have HS : Hid ((wr.setCell ⟨g1, j, none⟩ (.int .u8 255)).heap[g1]? = some (.cells (bytes (fillN (j + 1))).toArray 63 (0, 0))) := Lib.hid (by
        have h9 := heap_setCell_same wr g1 j _ _ (.int .u8 255) HH.out
        rw [← fillN_set j hlt, ← bytes_set]
        simpa using h9)
      have HB := Lib.hid (Below.setCell Hb.out (show w.heap.size ≤ (⟨g1, j, none⟩ : Addr).block from hle1) (.int .u8 255))
      generalize (fillN j)[j]?.getD 0 = c0 at hc
      clear HH Hb
      go_wp2
      go_roundw
      case rel => exact ⟨j + 1, by omega, by go_num, HS, HB⟩
      case measure => simp [intOf]; omega
    · obtain rfl : j = 32 := by omega
      have HL := Lib.hid (load63 HH.out (fillN_length 32 (Nat.le_refl _)))
      have Ht3 := Lib.hid (Ht.out.below Hb.out)
      clear hj hlt
      go_wp2_with (first
        | (refine go_value (o := ⟨some 22, _, _, _, _, _⟩) (by rfl) (ex_load HL.out rfl rfl) ?_)
        | (refine go_value (o := ⟨some 23, _, _, _, _, _⟩) (by rfl) (ex_build (b66_kb 1 63 (fillN 32) rfl) rfl rfl) ?_)
        | fail)
      refine (enc_any rF _ rF_ok Ht3.out).mono ?_
      rw [show chkE rF = 0 from if_pos rF_k, show encV rF = encL rF from if_pos rF_k]
      rintro e w4 ⟨v4, rfl, ho4, hb4⟩
      obtain ⟨g4, c4, rfl, -, hc4, -, -⟩ := ho4.form (by rw [encL_length rF_n]; omega)
      have hl4 := encL_length rF_n
      rw [hl4] at ho4 hc4 ⊢
      have q12 := ho4.cell 12 (by omega)
      have q13 := ho4.cell 13 (by omega)
      have q16 := ho4.cell 16 (by omega)
      have q47 := ho4.cell 47 (by omega)
      have q48 := ho4.cell 48 (by omega)
      have q4 := ho4.cell 4 (by omega)
      rw [rF_at.1] at q12
      rw [rF_at.2.1] at q13
      rw [rF_at.2.2.1] at q16
      rw [rF_at.2.2.2.1] at q47
      rw [rF_at.2.2.2.2.1] at q48
      rw [rF_at.2.2.2.2.2] at q4
      have HH4 := Lib.hid (load63 ((hb4.block g1 (Array.getElem?_eq_some_iff.1 HH.out).1).trans HH.out) (fillN_length 32 (Nat.le_refl _)))
      have Hb4 := Lib.hid (below_then Hb.out hb4)
      have HB5 := Lib.hid (heap_alloc_new w4 (.cells badCells 66))
      have Hb5 := Lib.hid (below_alloc Hb4.out (.cells badCells 66))
      clear HL HH Hb hb4 ho4 hl4 Ht3
      go_wp2_with (first
        | (refine go_value (o := ⟨some 70, _, _, _, _, _⟩) (by rfl) (ex_build (b66_k1 0) rfl rfl) ?_; simp only [Act.put, List.setIfInBounds_toArray, List.set_cons_zero, List.set_cons_succ])
        | (refine go_value (o := ⟨some 71, _, _, _, _, _⟩) (by rfl) (ex_build (b66_k1 3) rfl rfl) ?_; simp only [Act.put, List.setIfInBounds_toArray, List.set_cons_zero, List.set_cons_succ])
        | (refine go_value (o := ⟨some 72, _, _, _, _, _⟩) (by rfl) (ex_build (b66_ki 2 17) rfl rfl) ?_; simp only [Act.put, List.setIfInBounds_toArray, List.set_cons_zero, List.set_cons_succ])
        | (refine go_value (o := ⟨some 73, _, _, _, _, _⟩) (by rfl) (ex_build (b66_kb0 2 1) rfl rfl) ?_; simp only [Act.put, List.setIfInBounds_toArray, List.set_cons_zero, List.set_cons_succ])
        | (refine go_value (o := ⟨some 74, _, _, _, _, _⟩) (by rfl) (ex_build (b66_ki 1 1) rfl rfl) ?_; simp only [Act.put, List.setIfInBounds_toArray, List.set_cons_zero, List.set_cons_succ])
        | (refine go_value (o := ⟨some 75, _, _, _, _, _⟩) (by rfl) (ex_build (b66_kb0 1 64) rfl rfl) ?_; simp only [Act.put, List.setIfInBounds_toArray, List.set_cons_zero, List.set_cons_succ])
        | (refine go_value (o := ⟨some 76, _, _, _, _, _⟩) (by rfl) (ex_build (b66_kb0 1 (-1)) rfl rfl) ?_; simp only [Act.put, List.setIfInBounds_toArray, List.set_cons_zero, List.set_cons_succ])
        | (refine go_value (o := ⟨some 77, _, _, _, _, _⟩) (by rfl) (ex_build (b66_kp 2 4611686018427387905) rfl rfl) ?_; simp only [Act.put, List.setIfInBounds_toArray, List.set_cons_zero, List.set_cons_succ])
        | (refine go_value (o := ⟨some 78, _, _, _, _, _⟩) (by rfl) (ex_load HH4.out rfl rfl) ?_; simp only [Act.put, List.setIfInBounds_toArray, List.set_cons_zero, List.set_cons_succ])
        | (refine go_value (o := ⟨some 79, _, _, _, _, _⟩) (by rfl) (ex_build (b66_kv 2 (fillN 32) rfl) rfl rfl) ?_; simp only [Act.put, List.setIfInBounds_toArray, List.set_cons_zero, List.set_cons_succ])
        | (refine go_value (o := ⟨some 80, _, _, _, _, _⟩) (by rfl) (ex_buildSlice (run_bad _) rfl (by simp only [List.map_toArray, List.map_cons, List.map_nil, Act.eval, badParts]; rfl)) ?_; simp only [Act.put, List.setIfInBounds_toArray, List.set_cons_zero, List.set_cons_succ])
        | fail)
      generalize hg5 : w4.heap.size = g5 at HB5 Hb5 ⊢
      generalize w4.alloc (.cells badCells 66) = w5 at HB5 Hb5 ⊢
      clear hg5 q4 q12 q13 q16 q47 q48 HH4 Hb4
      go_loopw [6, 7, 8] (fun s6 s7 s8 wr => ∃ i : Nat, s6 = .int .i64 (i : Int) ∧ i ≤ 9 ∧ Hid (wr.heap[g5]? = some (.cells badCells 66 (0, 0))) ∧ Hid (Below w.heap.size w wr)) (fun s6 _ _ _ => 9 - (intOf s6).toNat)
      case atStart => exact ⟨0, rfl, by omega, HB5, Hb5⟩
      case round =>
        clear HB5 Hb5
        obtain ⟨i, rfl, hi, HB, Hb⟩ := hrel
        by_cases hlt : i < 9
        · obtain ⟨r, hr⟩ : ∃ r, badL[i]? = some r := ⟨_, List.getElem?_eq_getElem hlt⟩
          have hm := List.mem_of_getElem? hr
          have HL := Lib.hid (bad_load HB.out hr)
          have Hrk := Lib.hid (bad_bad r hm)
          have Hrn := Lib.hid (bad_n r hm)
          have Hro := Lib.hid (bad_ok r hm)
          clear hm
          go_wp2_with (first
            | (refine go_value (o := ⟨some 91, _, _, _, _, _⟩) (by rfl) (ex_load HL.out rfl rfl) ?_)
            | fail)
          refine (enc_any r _ Hro.out (Ht.out.below Hb.out)).mono ?_
          rw [show chkE r = 60 by rw [chkE, Hrk.out]; rfl, show encV r = [] by rw [encV, Hrk.out]; rfl]
          rintro e w7 ⟨v7, rfl, ho7, hb7⟩
          obtain ⟨A7, c7, rfl, -⟩ := ho7.reads.form
          have HB7 := Lib.hid ((hb7.block g5 (Array.getElem?_eq_some_iff.1 HB.out).1).trans HB.out)
          have HL7 := Lib.hid (bad_load HB7.out hr)
          have Hb7 := Lib.hid (below_then Hb.out hb7)
          clear ho7 hb7 HB Hb HL
          rw [List.length_nil]
          go_wp2_with (first
            | (refine go_value (o := ⟨some 98, _, _, _, _, _⟩) (by rfl) (ex_load HL7.out rfl rfl) ?_)
            | (go_at_call 38; (with_reducible refine (chk_any r _ Hro.out).mono ?_); rw [show chkE r = 60 by rw [chkE, Hrk.out]; rfl]; rintro e w8 ⟨rfl, hb⟩; have HB8 := Lib.hid ((hb.block g5 (Array.getElem?_eq_some_iff.1 HB7.out).1).trans HB7.out); have Hb8 := Lib.hid (below_then Hb7.out hb); clear hb)
            | fail)
          go_roundw
          case rel => exact ⟨i + 1, by go_num, by omega, HB8, Hb8⟩
          case measure => simp [intOf]; omega
        · obtain rfl : i = 9 := by omega
          have hmk63 : ∀ W : World, (Instr.makeSlice 25 (.int .i64 63) (.int .i64 63)).run Tryd.prog W = .ok (.slice (some ⟨W.heap.size, 0, none⟩) 63 63) (W.alloc (.cells (madeCells #[.int .u8 0] 63) 5)) := mk_bytes 63 (by omega)
          have Hz5 := Lib.hid ((ob_made wr 0 63 (Nat.zero_le _) (by omega)).reads)
          have Hb5 := Lib.hid (below_alloc Hb.out (.cells (madeCells #[.int .u8 0] 63) 5))
          clear HB Hb
          go_wp2_with fail
          refine (decode_any _ (List.replicate 63 0) _ Hz5.out (Ht.out.below Hb5.out)).mono ?_
          rw [z63_dec.1, z63_dec.2]
          rintro e w6 ⟨rfl, hb6⟩
          have hv6 := var_made 66 w6 Rec.zero
          have HZ6 := Lib.hid (At.new 66 w6 Rec.zero)
          have Hb6 := Lib.hid (below_then Hb5.out (below_then hb6 hv6.2))
          clear hv6 hb6 hmk63 Hz5 Hb5
          go_upto_region 19 with (first
            | (refine go_value (o := ⟨_, .alloc 66, _, _, _, _⟩) (by rfl) (ex_alloc (run_alloc66 _) rfl) ?_)
            | (refine go_skip (o := ⟨none, .store 66 _ _, _, _, _, _⟩) (by rfl) (ex_store (HZ6.out.store66 zero_n (s := Rec.zero) rfl) rfl rfl rfl) ?_)
            | fail)
          generalize (w6.alloc (.cells Rec.zero.cells 66)).setRow w6.heap.size Rec.zero.cells = w7 at Hb6 ⊢
          have hmk65 : ∀ W : World, (Instr.makeSlice 25 (.int .i64 65) (.int .i64 65)).run Tryd.prog W = .ok (.slice (some ⟨W.heap.size, 0, none⟩) 65 65) (W.alloc (.cells (madeCells #[.int .u8 0] 65) 5)) := mk_bytes 65 (by omega)
          have Hz7 := Lib.hid ((ob_made w7 0 65 (Nat.zero_le _) (by omega)).reads)
          have Hb7 := Lib.hid (below_alloc Hb6.out (.cells (madeCells #[.int .u8 0] 65) 5))
          clear HZ6 Hb6
          go_wp2_with fail
          refine (decode_any _ (List.replicate 65 0) _ Hz7.out (Ht.out.below Hb7.out)).mono ?_
          rw [z65_dec.1, z65_dec.2]
          rintro e w8 ⟨rfl, hb8⟩
          have hv8 := var_made 66 w8 Rec.zero
          have HZ8 := Lib.hid (At.new 66 w8 Rec.zero)
          have Hb8 := Lib.hid (below_then Hb7.out (below_then hb8 hv8.2))
          clear hv8 hb8 hmk65 Hz7 Hb7
          go_upto_region 20 with (first
            | (refine go_value (o := ⟨_, .alloc 66, _, _, _, _⟩) (by rfl) (ex_alloc (run_alloc66 _) rfl) ?_)
            | (refine go_skip (o := ⟨none, .store 66 _ _, _, _, _, _⟩) (by rfl) (ex_store (HZ8.out.store66 zero_n (s := Rec.zero) rfl) rfl rfl rfl) ?_)
            | fail)
          generalize (w8.alloc (.cells Rec.zero.cells 66)).setRow w8.heap.size Rec.zero.cells = w9 at Hb8 ⊢
          clear HZ8
          go_wp2_with fail
          go_ret
          exact ⟨rfl, Hb8.out⟩
end Go.Proofs.YtblfmofhfbbmdaaDoor
