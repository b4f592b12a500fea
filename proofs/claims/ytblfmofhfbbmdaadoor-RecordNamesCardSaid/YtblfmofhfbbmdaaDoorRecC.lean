/- The worked calls of package record that each of its laws begins with (wicketlaw06.fixed). -/
import Derived.Test.YtblfmofhfbbmdaaDoorRecA
set_option linter.unusedVariables false
set_option linter.unusedSimpArgs false
namespace Go.Proofs.YtblfmofhfbbmdaaDoor
open Go.RowKit Crc

/-- Decode, of whatever length. -/
theorem decode_any (v : Value) (b : List Int) (w : World) (hv : RBy w v b) (ht : Tab w) :
    Calls Tryd.prog 39 #[v] w fun e w' => e = .returned (.tuple #[.agg (decV b).cells, .int .i64 (decE b)]) ∧ Below w.heap.size w w' := by
  by_cases hl : b.length = 64
  · exact dec_any v b w hv hl ht
  · exact dec_len v b w hv hl
theorem rdecode_any (v : Value) (b : List Int) (w : World) (hv : RBy w v b) :
    Calls Tryd.prog 44 #[v] w fun e w' => e = .returned (.tuple #[.agg (decV b).cells, .int .i64 (decE b)]) ∧ Below w.heap.size w w' := by
  by_cases hl : b.length = 64
  · exact rdec_any v b w hv hl
  · exact rdec_len v b w hv hl
theorem decV_n (b : List Int) : (decV b).v.length = 32 := by
  unfold decV
  split
  · rename_i h
    have hl : b.length = 64 := by simp only [decOk, Bool.and_eq_true, decide_eq_true_eq] at h; exact h.1
    simp [decR]; omega
  · rfl
theorem decV_ok (b : List Int) (hb : IsB b) : (decV b).ok := by
  unfold decV
  split
  · rename_i h
    have hl : b.length = 64 := by simp only [decOk, Bool.and_eq_true, decide_eq_true_eq] at h; exact h.1
    exact decR_ok b hb hl
  · exact Rec.zero_ok
def r0 : Rec := ⟨2, 5, 0, zero32, 2⟩
theorem b66_r0 : Tryd.prog.built 66 [(0, .int .i64 2), (1, .int .u64 5), (4, .int .i64 2)] = some r0.cells := b66_commit 2 5 2
theorem r0_ok : r0.ok := ⟨by decide, by decide, by decide, Rec.zero_ok.v, rfl, by decide⟩
theorem r0_k : okRec r0 = true := by decide
theorem r0_enc : encV r0 = encL r0 := by rw [encV, if_pos r0_k]
theorem r0_chk : chkE r0 = 0 := by rw [chkE, if_pos r0_k]
theorem r0_dec : decV (encL r0) = r0 ∧ decE (encL r0) = 0 := by
  have h := decOk_encL r0 r0_ok r0_k
  exact ⟨by rw [decV, if_pos h, decR_encL r0 r0_ok r0_k], by rw [decE, if_pos (encL_length rfl), if_pos h]⟩
theorem z_dec : decV (List.replicate 64 0) = Rec.zero ∧ decE (List.replicate 64 0) = 60 := by
  have h : ¬ decOk (List.replicate 64 0) = true := by
    simp only [decOk, Bool.and_eq_true, not_and]
    intro _ h
    have := okRec_k h
    rcases this with h | h <;> simp [decR] at h
  exact ⟨by rw [decV, if_neg h], by rw [decE, if_pos (by simp), if_neg h]⟩
theorem n_dec : decV [] = Rec.zero ∧ decE [] = 2 := by decide +kernel
theorem enc0 (r : Rec) : (encL r)[0]?.getD 0 = 87 ∧ (encL r)[1]?.getD 0 = r.k := ⟨rfl, rfl⟩
theorem r0_at : (encL r0)[4]?.getD 0 = 5 ∧ (encL r0)[12]?.getD 0 = 2 := by
  have e : encL r0 = [87, 2, 0, 0, 5, 0, 0, 0, 0, 0, 0, 0, 2, 0, 0, 0] ++ (zero32 ++ List.replicate 12 0 ++ le 4 (sum (bodyL r0))) := by
    have hb : bodyL r0 = [87, 2, 0, 0, 5, 0, 0, 0, 0, 0, 0, 0, 2, 0, 0, 0] ++ (zero32 ++ List.replicate 12 0) := by decide
    rw [encL]
    generalize le 4 (sum (bodyL r0)) = T
    rw [hb, List.append_assoc]
  rw [e]; exact ⟨rfl, rfl⟩

/-- A variable that is made and stored into. -/
theorem var_made (t : TypeId) (w : World) (s : Rec) : At t ((w.alloc (.cells Rec.zero.cells t)).setRow w.heap.size s.cells) w.heap.size s ∧ Below w.heap.size w ((w.alloc (.cells Rec.zero.cells t)).setRow w.heap.size s.cells) :=
  ⟨(At.new t w Rec.zero).set, Below.setRow' (below_alloc (Below.refl _ _) _) (Nat.le_refl _) _⟩

set_option maxRecDepth 100000 in
set_option maxHeartbeats 4000000 in
theorem fixed6_any (w : World) (ht : Tab w) : Calls Tryd.prog 36 #[] w fun e w' => e = .returned (.bool true) ∧ Below w.heap.size w w' := by
  have Ht := Lib.hid ht
  clear ht
  go_enter Tryd.func36, Tryd.ntmps36
  go_wp2_with (first
    | (refine go_value (o := ⟨some 10, _, _, _, _, _⟩) (by rfl) (ex_build b66_r0 rfl rfl) ?_)
    | fail)
  refine (enc_any r0 _ r0_ok Ht.out).mono ?_
  rw [r0_enc, r0_chk]
  rintro e w1 ⟨v1, rfl, ho1, hb1⟩
  obtain ⟨g1, c1, rfl, -, hc1, -, -⟩ := ho1.form (by rw [encL_length rfl]; omega)
  rw [encL_length rfl] at ho1 hc1 ⊢
  have Ho1 := Lib.hid ho1
  have Hb1 := Lib.hid hb1
  clear ho1 hb1
  go_wp2_with fail
  refine (decode_any _ (encL r0) _ Ho1.out.reads (Ht.out.below Hb1.out)).mono ?_
  rw [r0_dec.1, r0_dec.2]
  rintro e w2 ⟨rfl, hb2⟩
  have Hb2 := Lib.hid (below_then Hb1.out hb2)
  have HZ2 := Lib.hid (At.new 66 w2 Rec.zero)
  have hq2 := below_then hb2 (Below.setRow' (below_alloc (Below.refl w2.heap.size w2) (.cells Rec.zero.cells 66)) (Nat.le_refl _) r0.cells)
  have Hq2 := Lib.hid hq2
  clear hb2 hq2
  go_upto_region 3 with (first
    | (refine go_value (o := ⟨some 3, _, _, _, _, _⟩) (by rfl) (ex_alloc (run_alloc66 _) rfl) ?_)
    | (refine go_skip (o := ⟨none, .store 66 _ _, _, _, _, _⟩) (by rfl) (ex_store (HZ2.out.store66 zero_n (s := r0) rfl) rfl rfl rfl) ?_)
    | fail)
  have HA2 := Lib.hid (HZ2.out.set (s := r0))
  have hb3 := below_then Hb1.out Hq2.out
  have Hb3 := Lib.hid hb3
  have Ho3 := Lib.hid (Ho1.out.below Hq2.out)
  clear hb3 HZ2 Ho1 Hb1 Hb2
  obtain ⟨g3, hg3⟩ : ∃ g3, w2.heap.size = g3 := ⟨_, rfl⟩
  rw [hg3] at HA2 Hb3 Ho3 ⊢
  generalize (w2.alloc (.cells Rec.zero.cells 66)).setRow g3 r0.cells = w3 at HA2 Hb3 Ho3 ⊢
  clear hg3 Hq2
  have Ht3 := Lib.hid (Ht.out.below Hb3.out)
  go_wp2_with fail
  refine (decode_any _ [] _ (RBy.nil _) Ht3.out).mono ?_
  rw [n_dec.1, n_dec.2]
  rintro e w4 ⟨rfl, hb4⟩
  have hv4 := var_made 66 w4 Rec.zero
  have HZ4 := Lib.hid (At.new 66 w4 Rec.zero)
  have Hq4 := Lib.hid (below_then hb4 hv4.2)
  clear hv4 hb4
  go_upto_region 4 with (first
    | (refine go_value (o := ⟨_, .alloc 66, _, _, _, _⟩) (by rfl) (ex_alloc (run_alloc66 _) rfl) ?_)
    | (refine go_skip (o := ⟨none, .store 66 _ _, _, _, _, _⟩) (by rfl) (ex_store (HZ4.out.store66 zero_n (s := Rec.zero) rfl) rfl rfl rfl) ?_)
    | fail)
  have HA5 := Lib.hid (HA2.out.below Hq4.out)
  have Ho5 := Lib.hid (Ho3.out.below Hq4.out)
  have Hb5 := Lib.hid (below_then Hb3.out Hq4.out)
  clear HA2 Ho3 Hb3 HZ4 Ht3
  generalize (w4.alloc (.cells Rec.zero.cells 66)).setRow w4.heap.size Rec.zero.cells = w5 at HA5 Ho5 Hb5 Hq4 ⊢
  have Ht5 := Lib.hid (Ht.out.below (below_alloc Hb5.out (.cells (madeCells #[.int .u8 0] 64) 5)))
  have hmk : ∀ W : World, (Instr.makeSlice 25 (.int .i64 64) (.int .i64 64)).run Tryd.prog W = .ok (.slice (some ⟨W.heap.size, 0, none⟩) 64 64) (W.alloc (.cells (madeCells #[.int .u8 0] 64) 5)) := mk_bytes 64 (by omega)
  have Hz5 := Lib.hid ((ob_made w5 0 64 (Nat.zero_le _) (by omega)).reads)
  go_wp2_with fail
  refine (decode_any _ (List.replicate 64 0) _ Hz5.out Ht5.out).mono ?_
  rw [z_dec.1, z_dec.2]
  rintro e w6 ⟨rfl, hb6⟩
  have hv6 := var_made 66 w6 Rec.zero
  have HZ6 := Lib.hid (At.new 66 w6 Rec.zero)
  have Hq6 := Lib.hid (below_then (below_alloc (Below.refl w5.heap.size w5) (.cells (madeCells #[.int .u8 0] 64) 5)) (below_then hb6 hv6.2))
  clear hv6 hb6 hmk
  go_upto_region 5 with (first
    | (refine go_value (o := ⟨_, .alloc 66, _, _, _, _⟩) (by rfl) (ex_alloc (run_alloc66 _) rfl) ?_)
    | (refine go_skip (o := ⟨none, .store 66 _ _, _, _, _, _⟩) (by rfl) (ex_store (HZ6.out.store66 zero_n (s := Rec.zero) rfl) rfl rfl rfl) ?_)
    | fail)
  have HA7 := Lib.hid (HA5.out.below Hq6.out)
  have Ho7 := Lib.hid (Ho5.out.below Hq6.out)
  have Hb7 := Lib.hid (below_then Hb5.out Hq6.out)
  clear HA5 Ho5 Hb5 HZ6 Ht5 Hz5 Hq4
  generalize (w6.alloc (.cells Rec.zero.cells 66)).setRow w6.heap.size Rec.zero.cells = w7 at HA7 Ho7 Hb7 Hq6 ⊢
  clear Hq6
  have hl := encL_length (r := r0) rfl
  have b0 := Ho7.out.cell 0 (by rw [hl]; omega)
  have b1 := Ho7.out.cell 1 (by rw [hl]; omega)
  have b4 := Ho7.out.cell 4 (by rw [hl]; omega)
  have b12 := Ho7.out.cell 12 (by rw [hl]; omega)
  rw [(enc0 r0).1] at b0
  rw [(enc0 r0).2, show r0.k = 2 from rfl] at b1
  rw [r0_at.1] at b4
  rw [r0_at.2] at b12
  have hq := eql66 r0 r0 rfl rfl w7
  rw [recEq_self] at hq
  have Hq := Lib.hid hq
  clear hq hl
  go_wp2_with (first
    | (refine go_value (o := ⟨some 74, _, _, _, _, _⟩) (by rfl) (ex_load (HA7.out.load66 rfl) rfl rfl) ?_)
    | (refine go_value (o := ⟨some 75, _, _, _, _, _⟩) (by rfl) (ex_build b66_r0 rfl rfl) ?_)
    | (refine go_value (o := ⟨some 76, _, _, _, _, _⟩) (by rfl) (ex_bin Hq.out rfl rfl rfl (run_eqGuard_agg _ _ _ _ _ _ _ noGuard66)) ?_)
    | (refine go_value (o := ⟨some 79, _, _, _, _, _⟩) (by rfl) (ex_load (HA7.out.load66 rfl) rfl rfl) ?_)
    | (refine go_value (o := ⟨some 84, _, _, _, _, _⟩) (by rfl) (ex_build b66_none rfl rfl) ?_)
    | (go_at_call 38; (with_reducible refine (chk_any r0 _ r0_ok).mono ?_); rw [r0_chk]; rintro e w8 ⟨rfl, hb⟩; have Hb8 := Lib.hid (below_then Hb7.out hb); clear hb)
    | (go_at_call 38; (with_reducible refine (chk_any Rec.zero _ Rec.zero_ok).mono ?_); rw [show chkE Rec.zero = 60 from rfl]; rintro e w9 ⟨rfl, hb⟩; have Hb9 := Lib.hid (below_then Hb8.out hb); clear hb))
  go_ret
  exact ⟨rfl, Hb9.out⟩
end Go.Proofs.YtblfmofhfbbmdaaDoor
