/- Plain laws of records: what is written is read back; unlike records have unlike bytes; turned bytes are told. -/
import Derived.Test.YtblfmofhfbbmdaaDoorRec9
import Derived.Test.YtblfmofhfbbmdaaDoorSumBurstsWalk
set_option linter.unusedVariables false
set_option linter.unusedSimpArgs false
namespace Go.Proofs.YtblfmofhfbbmdaaDoor
open Go.RowKit Crc

theorem decR_encL (r : Rec) (hr : r.ok) (hk : okRec r = true) : decR (encL r) = r := by
  have hm := okRec_may hr hk
  have hb := hm.b
  have hi := hm.i
  have hp := hm.p
  have hn := hr.n
  have e : encL r = [87, r.k, 0, 0] ++ (le 8 r.p ++ (le 4 (r.b + r.i) ++ (r.v ++ (List.replicate 12 0 ++ le 4 (sum (bodyL r)))))) := by simp [encL, bodyL]
  generalize le 4 (sum (bodyL r)) = T at e
  have l8 := le_length 8 r.p
  have l4 := le_length 4 (r.b + r.i)
  have e1 : ((encL r).take 12).drop 4 = le 8 r.p := by
    rw [e]; simp [List.take_append, List.drop_append, l8]
  have e2 : ((encL r).take 16).drop 12 = le 4 (r.b + r.i) := by
    rw [e]; simp [List.take_append, List.drop_append, l8, l4]
  have e3 : ((encL r).take 48).drop 16 = r.v := by
    rw [e]; simp [List.take_append, List.drop_append, l8, l4, hn]
  have e4 : (encL r)[1]?.getD 0 = r.k := by rw [e]; rfl
  unfold decR
  rw [e1, e2, e3, e4, numU_le 8 r.p (by omega) (by omega) (by omega), numU_le 4 (r.b + r.i) (by omega) (by omega) (by omega)]
  obtain ⟨k, p, b, v, i⟩ := r
  simp only [okRec, okImage, okCommit, Bool.and_eq_true, Bool.or_eq_true, decide_eq_true_eq, beq_iff_eq] at hk
  simp only at *
  obtain ⟨_, ⟨h1, h2, h3, h4⟩ | ⟨h1, h2, h3, h4, h5⟩⟩ := hk
  · subst h1 h4; simp
  · subst h1 h4; simp
theorem decOk_encL (r : Rec) (hr : r.ok) (hk : okRec r = true) : decOk (encL r) = true := by
  simp [decOk, encL_length hr.n, decR_encL r hr hk, hk]
theorem encL_inj {r s : Rec} (hr : r.ok) (hs : s.ok) (hk : okRec r = true) (hl : okRec s = true) : encL r = encL s ↔ r = s :=
  ⟨fun h => by rw [← decR_encL r hr hk, h, decR_encL s hs hl], fun h => by rw [h]⟩
theorem le_four (s : Int) : le 4 s = le4 s := by simp [le, le4, Crc.byteOf, List.range_succ]
theorem sum_encL (r : Rec) : sum (encL r) = resid := by rw [encL, le_four]; exact sum_resid _
/-- Four bytes side by side that are turned are told. -/
theorem turned_told (r : Rec) (hr : r.ok) (hk : okRec r = true) (k : Nat) (turn : Int) (h4 : k + 4 ≤ 64) (ht : 0 ≤ turn ∧ turn < 4294967296) : decE (turnN turn k 4 (encL r)) = if turn = 0 then 0 else 60 := by
  have hl := encL_length hr.n
  have hb := encL_isB hr hk
  have hlen := turnN_length turn k (encL r) 4
  by_cases h0 : turn = 0
  · subst h0
    rw [turnN_zero k (encL r) hb 4 (by omega), if_pos rfl, decE, if_pos hl, if_pos (decOk_encL r hr hk)]
  · rw [if_neg h0, decE, if_pos (by omega), if_neg]
    intro h
    simp only [decOk, Bool.and_eq_true, beq_iff_eq] at h
    obtain ⟨_, _, h2⟩ := h
    refine h0 (sum_turn4 (encL r) k turn (by omega) hb ht ?_)
    rw [← h2, sum_encL, sum_encL]
end Go.Proofs.YtblfmofhfbbmdaaDoor
