/- The walk of the law RecordOneForm: it returns true, and nothing that was there has turned. -/
import Derived.Test.YtblfmofhfbbmdaaDoorRecC
set_option linter.unusedVariables false
set_option linter.unusedSimpArgs false
namespace Go.Proofs.YtblfmofhfbbmdaaDoor
open Go.RowKit Crc

theorem decV_enc (b : List Int) (h : decOk b = true) : okRec (decV b) = true ∧ encL (decV b) = b := by
  have h' := h
  simp only [decOk, Bool.and_eq_true, decide_eq_true_eq, beq_iff_eq] at h'
  rw [decV, if_pos h]
  exact h'.2
set_option maxRecDepth 100000 in
set_option maxHeartbeats 4000000 in
theorem recordOneForm_walk (v : Value) (b : List Int) (w : World) (hv : RBy w v b) (hbl : b.length ≤ reachBytes) (ht : Tab w) :
    Calls Tryd.prog 15 #[v] w fun e w' => e = .returned (.bool true) ∧ Below w.heap.size w w' := by
  have Ht := Lib.hid ht
  have Hv := Lib.hid hv
  obtain ⟨A, c, rfl, -⟩ := hv.form
  have hb := hv.isB
  clear ht hv
  go_enter Tryd.func15, Tryd.ntmps15
  go_wp2_with fail
  refine (fixed6_any _ Ht.out).mono ?_
  rintro e w1 ⟨rfl, hb1⟩
  have Hb1 := Lib.hid hb1
  clear hb1
  go_wp2_with fail
  refine (decode_any _ b _ (Hv.out.below Hb1.out) (Ht.out.below Hb1.out)).mono ?_
  rintro e w2 ⟨rfl, hb2⟩
  have hv2 := var_made 66 w2 (decV b)
  have HZ2 := Lib.hid (At.new 66 w2 Rec.zero)
  have HA2 := Lib.hid hv2.1
  have Hb3 := Lib.hid (below_then Hb1.out (below_then hb2 hv2.2))
  have Hv3 := Lib.hid (Hv.out.below Hb3.out)
  have hdn := decV_n b
  have hdo := decV_ok b hb
  clear hv2 hb2 Hb1
  go_upto_region 4 with (first
    | (refine go_value (o := ⟨_, .alloc 66, _, _, _, _⟩) (by rfl) (ex_alloc (run_alloc66 _) rfl) ?_)
    | (refine go_skip (o := ⟨none, .store 66 _ _, _, _, _, _⟩) (by rfl) (ex_store (HZ2.out.store66 zero_n (s := decV b) hdn) rfl rfl rfl) ?_)
    | fail)
  generalize hg : w2.heap.size = g at HA2 Hb3 Hv3 ⊢
  generalize (w2.alloc (.cells Rec.zero.cells 66)).setRow g (decV b).cells = w3 at HA2 Hb3 Hv3 ⊢
  clear hg HZ2 Hv
  by_cases hd : decOk b = true
  · have hE : decE b = 0 := by rw [decE, if_pos (by simp only [decOk, Bool.and_eq_true, decide_eq_true_eq] at hd; exact hd.1), if_pos hd]
    have hk := decV_enc b hd
    have hev : Hid (encV (decV b) = b) := Lib.hid (by rw [encV, if_pos hk.1]; exact hk.2)
    have hch : Hid (chkE (decV b) = 0) := Lib.hid (by rw [chkE, if_pos hk.1])
    rw [hE]
    clear hE hk hd
    go_wp2_with (first
      | (refine go_value (o := ⟨some 28, _, _, _, _, _⟩) (by rfl) (ex_load (HA2.out.load66 hdn) rfl rfl) ?_)
      | fail)
    refine (enc_any (decV b) _ hdo (Ht.out.below Hb3.out)).mono ?_
    rw [hev.out, hch.out]
    rintro e w4 ⟨v4, rfl, ho4, hb4⟩
    have k1 := conv_str ho4.reads
    have k2 := conv_str (Hv3.out.below hb4)
    have Hb4 := Lib.hid (below_then Hb3.out hb4)
    have HA4 := Lib.hid (HA2.out.below hb4)
    obtain ⟨A4, c4, rfl, -⟩ := ho4.reads.form
    clear ho4 hb4
    go_wp2_with (first
      | (refine go_value (o := ⟨some 42, _, _, _, _, _⟩) (by rfl) (ex_load (HA4.out.load66 hdn) rfl rfl) ?_)
      | (go_at_call 38; refine (chk_any (decV b) _ hdo).mono ?_; rw [hch.out]; rintro e w5 ⟨rfl, hb⟩; have Hb5 := Lib.hid (below_then Hb4.out hb); clear hb))
    go_ret
    exact ⟨by simp, Hb5.out⟩
  · have hV : decV b = Rec.zero := by rw [decV, if_neg hd]
    rw [hV] at HA2
    have hq := eql66 Rec.zero Rec.zero rfl rfl w3
    rw [recEq_self] at hq
    have Hq := Lib.hid hq
    clear hq hV
    by_cases hl : b.length = 64
    · have hE : decE b = 60 := by rw [decE, if_pos hl, if_neg hd]
      rw [hE]
      have hl2 : ((b.length : Int) != 64) = false := by rw [hl]; rfl
      clear hE hl hd
      go_wp2_with (first
        | (refine go_value (o := ⟨some 16, _, _, _, _, _⟩) (by rfl) (ex_load (HA2.out.load66 rfl) rfl rfl) ?_)
        | (refine go_value (o := ⟨some 17, _, _, _, _, _⟩) (by rfl) (ex_build b66_none rfl rfl) ?_)
        | (refine go_value (o := ⟨some 18, _, _, _, _, _⟩) (by rfl) (ex_bin Hq.out rfl rfl rfl (run_eqGuard_agg _ _ _ _ _ _ _ noGuard66)) ?_))
      go_ret
      exact ⟨by simp, Hb3.out⟩
    · have hE : decE b = 2 := by rw [decE, if_neg hl]
      rw [hE]
      have hl2 : ((b.length : Int) != 64) = true := by simp; omega
      clear hE hl hd
      go_wp2_with (first
        | (refine go_value (o := ⟨some 16, _, _, _, _, _⟩) (by rfl) (ex_load (HA2.out.load66 rfl) rfl rfl) ?_)
        | (refine go_value (o := ⟨some 17, _, _, _, _, _⟩) (by rfl) (ex_build b66_none rfl rfl) ?_)
        | (refine go_value (o := ⟨some 18, _, _, _, _, _⟩) (by rfl) (ex_bin Hq.out rfl rfl rfl (run_eqGuard_agg _ _ _ _ _ _ _ noGuard66)) ?_))
      go_ret
      exact ⟨by simp, Hb3.out⟩
end Go.Proofs.YtblfmofhfbbmdaaDoor
