/- A record's bytes: the program's Encode; bytes.Equal. -/
import Derived.Test.YtblfmofhfbbmdaaDoorRec4
set_option linter.unusedVariables false
set_option linter.unusedSimpArgs false
namespace Go.Proofs.YtblfmofhfbbmdaaDoor
open Go.RowKit Crc

def encV (r : Rec) : List Int := if okRec r = true then encL r else []
set_option maxRecDepth 100000 in
set_option maxHeartbeats 2000000 in
theorem enc_any (r : Rec) (w : World) (hr : r.ok) (ht : Tab w) :
    Calls Tryd.prog 37 #[.agg r.cells] w fun e w' => ∃ v', e = .returned (.tuple #[v', .int .i64 (chkE r)]) ∧ OB w' w.heap.size v' (encV r) ∧ Below w.heap.size w w' := by
  have HA := Lib.hid (At.new 66 w r)
  have Ht := Lib.hid ht
  have hb0 := Lib.hid (below_alloc (Below.refl w.heap.size w) (.cells r.cells 66))
  clear ht
  by_cases hk : okRec r = true
  · have hE : Hid (chkE r = 0) := Lib.hid (by rw [chkE, if_pos hk])
    have hV : Hid (encV r = encL r) := Lib.hid (by rw [encV, if_pos hk])
    have Hm := Lib.hid (okRec_may hr hk)
    rw [hE.out]
    clear hk
    go_enter Tryd.func37, Tryd.ntmps37
    go_wp2_with (first
      | (refine go_value (o := ⟨some 5, _, _, _, _, _⟩) (by rfl) (ex_load (HA.out.load66 hr.n) rfl rfl) ?_)
      | (go_at_call 38; refine (chk_any r _ hr).mono ?_; rw [hE.out]; rintro e w1 ⟨rfl, hb⟩; have hb1 := Lib.hid (below_then hb0.out hb); have HA1 := Lib.hid (HA.out.below hb); clear hb)
      | (refine go_value (o := ⟨some 10, _, _, _, _, _⟩) (by rfl) (ex_load (HA1.out.load66 hr.n) rfl rfl) ?_)
      | (go_at_call 67; refine (laid_any r _ hr Hm.out (Ht.out.below hb1.out)).mono ?_; rintro e w2 ⟨v2, rfl, ho, hb⟩; have hb2 := Lib.hid (below_then hb1.out hb); have ho2 := Lib.hid (ho.lower (b2 := w.heap.size) hb1.out.size); clear ho hb))
    go_ret2
    exact ⟨_, rfl, by rw [hV.out]; exact ho2.out, hb2.out⟩
  · have hE : Hid (chkE r = 60) := Lib.hid (by rw [chkE, if_neg hk])
    have hV : Hid (encV r = []) := Lib.hid (by rw [encV, if_neg hk])
    rw [hE.out]
    clear hk
    go_enter Tryd.func37, Tryd.ntmps37
    go_wp2_with (first
      | (refine go_value (o := ⟨some 5, _, _, _, _, _⟩) (by rfl) (ex_load (HA.out.load66 hr.n) rfl rfl) ?_)
      | (go_at_call 38; refine (chk_any r _ hr).mono ?_; rw [hE.out]; rintro e w1 ⟨rfl, hb⟩; have hb1 := Lib.hid (below_then hb0.out hb); clear hb))
    go_ret2
    exact ⟨_, rfl, by rw [hV.out]; exact OB.nil _ _, hb1.out⟩

end Go.Proofs.YtblfmofhfbbmdaaDoor
