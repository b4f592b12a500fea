/- What the reference's Fields comes to. -/
import Derived.Test.YtblfmofhfbbmdaaRef
import Derived.Test.YtblfmofhfbbmdaaRoom
set_option linter.unusedVariables false
set_option linter.unusedSimpArgs false
namespace Go.Proofs.Ytblfmofhfbbmdaa
open Go.RowKit

set_option maxRecDepth 100000 in
set_option maxHeartbeats 2000000 in
theorem rfields_any (v : Value) (xs : List Int) (vs : Value) (ss : List Int) (w : World) (hv : RBy w v xs) (hs : RI .i64 w vs ss) (hsr : ∀ s ∈ ss, -9223372036854775808 ≤ s ∧ s ≤ 9223372036854775807) (hxl : xs.length ≤ 140737488355328) (hsl : ss.length * 8 ≤ 140737488355328) :
    Calls Try.prog 22 #[v, vs] w fun e w' => ∃ v1 v2, e = .returned (.tuple #[v1, v2, .int .i64 (fields xs ss).2.2]) ∧ OI .u64 27 w' w.heap.size v1 (fields xs ss).1 ∧ OB w' w.heap.size v2 (fields xs ss).2.1 ∧ Below w.heap.size w w' := by
  obtain ⟨A, c, rfl, hc, hn, hA, hcell⟩ := hs
  have hd1 := Lib.hid (below_alloc (Below.refl w.heap.size w) (.cells #[] 5))
  have hob := Lib.hid (own_bare w)
  have hv0 := Lib.hid (hv.below hd1.out)
  have hl0 := Lib.hid (show ([] : List Int).length + xs.length ≤ 140737488355328 by simp; omega)
  have hsz := Lib.hid hd1.out.size
  obtain ⟨Ab, cb, rfl, hcb⟩ := hv.form
  have hfb : ∀ k, k < ss.length → ¬ okSize (ss[k]?.getD 0) → fields xs ss = ([], [], 2) := fun k hk hno => by
    refine fields_bad fun hall => hno ?_
    rw [List.getElem?_eq_getElem hk]
    exact hall _ (List.getElem_mem hk)
  have Hfb := Lib.hid hfb
  have Hcell := Lib.hid hcell
  have Hsr := Lib.hid hsr
  clear hfb hcell hsr hv
  go_enter Try.func22, Try.ntmps22
  go_wp2
  go_loop [7] (fun i => ∃ k : Nat, k ≤ ss.length ∧ i = .int .i64 k ∧ Aside1 (∀ j, j < k → okSize (ss[j]?.getD 0))) (fun i => ss.length - (intOf i).toNat)
  case atStart => exact ⟨0, Nat.zero_le _, rfl, ⟨fun j hj => by omega⟩⟩
  case round =>
    obtain ⟨k, hk, rfl, hgood⟩ := hrel
    by_cases hlt : k < ss.length
    · obtain ⟨ad, rfl, hcs⟩ := Hcell.out (by omega)
      have hu := hcs k hlt
      clear hcs
      by_cases hok : okSize (ss[k]?.getD 0)
      · have hgood2 : Aside1 (∀ j, j < k + 1 → okSize (ss[j]?.getD 0)) := ⟨fun j hj => by
          by_cases e : j = k
          · subst e; exact hok
          · exact hgood.out j (by omega)⟩
        obtain ⟨h1, h2⟩ := hok
        generalize ss[k]?.getD 0 = s at hu h1 h2
        go_wp2
        go_round
        case rel => exact ⟨k + 1, by omega, by go_num, hgood2⟩
        case measure => simp [intOf]; omega
      · have Hf := Lib.hid (Hfb.out k hlt hok)
        unfold okSize at hok
        generalize ss[k]?.getD 0 = s at hu hok
        by_cases h1 : s < 1
        · clear hok
          go_wp2
          go_ret3
          exact ⟨_, _, by rw [Hf.out]; rfl, by rw [Hf.out]; exact OI.nil _ _ _ _, by rw [Hf.out]; exact OB.nil _ _, Below.refl _ _⟩
        · have h2 : 8 < s := by omega
          have h1' : 1 ≤ s := by omega
          clear hok h1
          go_wp2
          go_ret3
          exact ⟨_, _, by rw [Hf.out]; rfl, by rw [Hf.out]; exact OI.nil _ _ _ _, by rw [Hf.out]; exact OB.nil _ _, Below.refl _ _⟩
    · have hall : ∀ s ∈ ss, okSize s := fun s hs => by
        obtain ⟨j, hj, rfl⟩ := List.mem_iff_getElem.1 hs
        have := hgood.out j (by omega)
        rwa [List.getElem?_eq_getElem hj] at this
      have Hall := Lib.hid hall
      clear hall hgood Hfb Hsr hA
      have Hgo := Lib.hid (show fieldsGo xs ss = (fieldsGo xs (ss.drop 0)).map fun r => (([] : List Int) ++ r.1, r.2) by simp)
      go_wp2_with (at_builtin; refine wpList_app rfl (.tmp 32) (.tmp 33) 23 rfl Try.underlying23 oinfo5 w.heap.size _ _ [] xs rfl rfl hob.out hv0.out hl0.out hsz.out ?_; intro v1 w1 ho1 hg1 _; have hd2 := Lib.hid (below_grown hd1.out hob.out (Nat.le_refl _) hg1); replace ho1 := Lib.hid ho1; clear hg1)
      clear hk hlt
      go_loopw [8, 9, 10, 11, 12, 13] (fun s8 s9 s10 s11 s12 s13 wr => ∃ (k : Nat) (cur N : List Int), k ≤ ss.length ∧ N.length = k ∧ s10 = .int .i64 k ∧ cur.length ≤ xs.length ∧ Hid (OB wr w.heap.size s8 cur) ∧ Hid (fieldsGo xs ss = (fieldsGo cur (ss.drop k)).map fun r => (N ++ r.1, r.2)) ∧ Hid (OI .u64 27 wr w.heap.size s9 N) ∧ Hid (Below w.heap.size w wr)) (fun _ _ i _ _ _ _ => ss.length - (intOf i).toNat)
      case atStart => exact ⟨0, xs, [], Nat.zero_le _, rfl, rfl, Nat.le_refl _, ho1, Hgo, OI.nil _ _ _ _, hd2⟩
      case round =>
        clear Hgo ho1 hd2
        obtain ⟨k, cur, N, hk, hNk, rfl, hcl, Hb, Hg, hon, hbr⟩ := hrel
        by_cases hlt : k < ss.length
        · obtain ⟨ad, rfl, hcs⟩ := Hcell.out (by omega)
          have hu := keep_cell hbr.out (Nat.le_refl _) (hcs k hlt)
          have hok : okSize (ss[k]?.getD 0) := by
            rw [List.getElem?_eq_getElem hlt]; exact Hall.out _ (List.getElem_mem hlt)
          have hdr : ss.drop k = (ss[k]?.getD 0) :: ss.drop (k + 1) := by
            rw [List.drop_eq_getElem_cons hlt, List.getElem?_eq_getElem hlt]; rfl
          have hg := Hg.out
          rw [hdr] at hg
          clear hcs hdr Hg
          have hok2 := hok
          obtain ⟨h1, h2⟩ := hok
          generalize ss[k]?.getD 0 = s at hu h1 h2 hg hok2
          by_cases hsh : (cur.length : Int) < s
          · have hnone : fieldsGo xs ss = none := by
              rw [hg, fieldsGo, if_pos (by omega)]; rfl
            have Hf := Lib.hid (fields_short Hall.out hnone)
            have Ht := Lib.hid (show takeF cur s = (0, [], 11) by rw [takeF, if_pos hok2, if_pos hsh])
            clear hg hnone Hcell
            go_wp2_with (go_at_call 17; refine (rtake_any _ cur s _ Hb.out.reads (by omega) (by omega)).mono ?_; rw [Ht.out]; rintro e w2 ⟨v2, rfl, ho2, hb2⟩; have hb2 := Lib.hid (below_then hbr.out hb2); clear ho2)
            go_ret3
            exact ⟨_, _, by rw [Hf.out]; rfl, by rw [Hf.out]; exact OI.nil _ _ _ _, by rw [Hf.out]; exact OB.nil _ _, hb2.out⟩
          · have Ht := Lib.hid (show takeF cur s = (numU (cur.take s.toNat), cur.drop s.toNat, 0) by rw [takeF, if_pos hok2, if_neg hsh])
            have hgo : fieldsGo xs ss = (fieldsGo (cur.drop s.toNat) (ss.drop (k + 1))).map fun r => ((N ++ [numU (cur.take s.toNat)]) ++ r.1, r.2) := by
              rw [hg, fieldsGo, if_neg (by omega)]
              simp only [Option.map_map]
              congr 1
              funext r
              simp
            have Hgo := Lib.hid hgo
            have hdl : (cur.drop s.toNat).length ≤ xs.length := by rw [List.length_drop]; omega
            clear hg hgo Hcell
            generalize numU (cur.take s.toNat) = nn at *
            generalize cur.drop s.toNat = cur2 at *
            go_wp2_with first
              | (go_at_call 17; refine (rtake_any _ cur s _ Hb.out.reads (by omega) (by omega)).mono ?_; rw [Ht.out]; rintro e w2 ⟨v2, rfl, ho2, hb2⟩; have hon2 := hon.out.below hb2; have hsz2 : w.heap.size ≤ w2.heap.size := Nat.le_trans hbr.out.size hb2.size; have ho2 := Lib.hid (ho2.lower hbr.out.size); have hb2 := Lib.hid (below_then hbr.out hb2))
              | (at_builtin; refine wpList_app1 rfl (.tmp 54) (.tmp 56) 30 27 .u64 8 rfl Try.underlying30 oinfo64 (by decide) w.heap.size _ N nn rfl rfl hon2 (by omega) hsz2 ?_; intro v3 w3 ho3 hg3 _; have ho2' := Lib.hid (ho2.out.kept hg3 (own_unlike ho2.out.1 hon2 (by decide))); have hb3 := Lib.hid (below_grownI' hb2.out hon2 hg3); replace ho3 := Lib.hid ho3; clear hg3)
            go_roundw
            case rel => exact ⟨k + 1, cur2, N ++ [nn], by omega, by simp [hNk], by go_num, hdl, ho2', Hgo, ho3, hb3⟩
            case measure => simp [intOf]; omega
        · have hg : fieldsGo xs ss = some (N, cur) := by
            rw [Hg.out, List.drop_of_length_le (by omega), fieldsGo]; simp
          have Hf := Lib.hid (fields_ok Hall.out hg)
          clear hg Hg
          go_wp2
          go_ret3
          exact ⟨_, _, by rw [Hf.out]; rfl, by rw [Hf.out]; exact hon.out, by rw [Hf.out]; exact Hb.out, hbr.out⟩
end Go.Proofs.Ytblfmofhfbbmdaa
