/- The reference of package super (wicketref07): Sum, eight, low. -/
import Derived.Test.YtblfmofhfbbmdaaDoorRefSum
import Derived.Test.YtblfmofhfbbmdaaDoorNums
import Derived.Test.YtblfmofhfbbmdaaDoorOct1
set_option linter.unusedVariables false
set_option linter.unusedSimpArgs false
namespace Go.Proofs.YtblfmofhfbbmdaaDoor
open Go.RowKit Crc

set_option maxRecDepth 100000 in
set_option maxHeartbeats 2000000 in
theorem ssum_any (v : Value) (xs : List Int) (w : World) (hv : RBy w v xs) :
    Calls Tryd.prog 55 #[v] w fun e w' => e = .returned (.int .u32 (sum xs)) ∧ w = w' := by
  obtain ⟨A', c', rfl, hc', hn', hb', hA', hcell'⟩ := hv
  go_enter Tryd.func55, Tryd.ntmps55
  go_wp2
  go_loop [3, 4] (fun x i => ∃ j : Nat, j ≤ xs.length ∧ i = .int .i64 j ∧ x = .int .u32 (un (runs ones (xs.take j)))) (fun _ i => xs.length - (intOf i).toNat)
  case atStart => exact ⟨0, Nat.zero_le _, rfl, rfl⟩
  case round =>
    obtain ⟨j, hj, rfl, rfl⟩ := hrel
    by_cases hlj : j < xs.length
    · obtain ⟨ad', rfl, hcs'⟩ := hcell' (by omega)
      have hx := hcs' j hlj
      have hxr : 0 ≤ xs[j]?.getD 0 ∧ xs[j]?.getD 0 < 256 := by
        rw [List.getElem?_eq_getElem hlj]; exact hb' _ (List.getElem_mem hlj)
      have hn1 := runs_take_succ ones xs j hlj
      generalize xs[j]?.getD 0 = c at hx hxr hn1
      have Hn1 := Lib.hid hn1
      clear hn1 hcell' hcs' hb'
      generalize hR : runs ones (xs.take j) = R at Hn1
      have hXr := un_range R
      have hb := bits_xor (un R) c
      rw [bv_un] at hb
      go_wp2
      go_loop [3, 5] (fun xv i => ∃ k : Nat, k ≤ 8 ∧ i = .int .i64 k ∧ xv = .int .u32 (un (it k (R ^^^ bv c)))) (fun _ i => 8 - (intOf i).toNat)
      case atStart => exact ⟨0, Nat.zero_le _, rfl, by first | rfl | (rw [hb]; rfl)⟩
      case round =>
        clear hb
        obtain ⟨k, hk, rfl, rfl⟩ := hrel
        rw [bv_un] at Hn1
        generalize hX : R ^^^ bv c = X0 at Hn1
        have HX := Lib.hid hX
        clear hX
        by_cases hlt : k < 8
        · have hs := it_succ k X0
          obtain ⟨X, hX⟩ : ∃ X, it k X0 = X := ⟨_, rfl⟩
          rw [hX] at hs ⊢
          have Hs := Lib.hid hs
          clear hs hX
          have hr := un_range X
          by_cases ho : X.getLsbD 0 = true
          · have h1 := odd_yes X ho
            have h2 := Lib.hid (step_yes X ho)
            clear ho
            go_wp2
            go_round
            case rel => exact ⟨k + 1, by omega, by go_num, by rw [Hs.out, ← h2.out]⟩
            case measure => simp [intOf]; omega
          · have ho' : X.getLsbD 0 = false := by simpa using ho
            have h1 := odd_no X ho'
            have h2 := Lib.hid (step_no X ho')
            clear ho ho'
            go_wp2
            go_round
            case rel => exact ⟨k + 1, by omega, by go_num, by rw [Hs.out, ← h2.out]⟩
            case measure => simp [intOf]; omega
        · have hk8 : k = 8 := by omega
          go_wp2
          go_round
          case rel => exact ⟨j + 1, by omega, by go_num, by rw [hk8]; exact congrArg _ Hn1.out⟩
          case measure => simp [intOf]; omega
    · go_wp2
      go_ret
      exact ⟨by rw [List.take_of_length_le (by omega)]; first | rfl | (rw [xor_ones']; rfl) | (rw [xor_ones]; rfl), rfl⟩

set_option maxRecDepth 100000 in
set_option maxHeartbeats 1000000 in
theorem eight_any (v : Value) (xs : List Int) (w : World) (hv : RBy w v xs) (hl : xs.length = 8) :
    Calls Tryd.prog 72 #[v] w fun e w' => e = .returned (.int .u64 (numU xs)) ∧ w = w' := by
  obtain ⟨A', c', rfl, hc', hn', hb', hA', hcell'⟩ := hv
  go_enter Tryd.func72, Tryd.ntmps72
  go_wp2
  go_loop [3, 4] (fun nv i => ∃ j : Nat, j ≤ 8 ∧ i = .int .i64 ((j : Int) - 1) ∧ nv = .int .u64 (numU (xs.drop j))) (fun _ i => ((intOf i) + 1).toNat)
  case atStart => exact ⟨8, Nat.le_refl _, rfl, by rw [List.drop_of_length_le (by omega)]; rfl⟩
  case round =>
    obtain ⟨j, hj, rfl, rfl⟩ := hrel
    by_cases h0 : 0 < j
    · obtain ⟨i, rfl⟩ : ∃ i, j = i + 1 := ⟨j - 1, by omega⟩
      have e1 : ((i + 1 : Nat) : Int) - 1 = (i : Int) := by omega
      rw [e1]
      obtain ⟨ad', rfl, hcs'⟩ := hcell' (by omega)
      have hx := hcs' i (by omega)
      have hxr : 0 ≤ xs[i]?.getD 0 ∧ xs[i]?.getD 0 < 256 := by
        rw [List.getElem?_eq_getElem (by omega)]; exact hb' _ (List.getElem_mem _)
      have hnr := numU_range (xs.drop (i + 1))
      have hd := numU_drop xs i (by omega)
      generalize numU (xs.drop (i + 1)) = q at hd hnr
      generalize xs[i]?.getD 0 = c at hx hxr hd
      have hw : IntKind.u64.wrap (IntKind.u64.wrap (256 * q) + c) = (256 * q + c) % 18446744073709551616 := by rw [wrap_u64, wrap_u64]; omega
      rw [← hw] at hd
      have Hd := Lib.hid hd
      clear hcell' hcs' hb' e1 hd hw
      go_wp2
      go_round
      case rel => exact ⟨i, by omega, rfl, by rw [Hd.out]⟩
      case measure => simp [intOf]
    · obtain rfl : j = 0 := by omega
      go_wp2
      go_ret
      exact ⟨rfl, rfl⟩

set_option maxRecDepth 100000 in
set_option maxHeartbeats 1000000 in
theorem low_any (n : Int) (m : Nat) (w : World) (hn : 0 ≤ n ∧ n < 18446744073709551616) (hm : m ≤ 8) :
    Calls Tryd.prog 73 #[.int .u64 n, .int .i64 m] w fun e w' => ∃ v', e = .returned v' ∧ OB w' w.heap.size v' (le m n) ∧ Below w.heap.size w w' := by
  go_enter Tryd.func73, Tryd.ntmps73
  go_wp2
  go_loopw [0, 5, 6] (fun nv bv i wr => ∃ t : Nat, i = .int .i64 (t : Int) ∧ t ≤ m ∧ nv = .int .u64 (n / 256 ^ t) ∧ Hid (OB wr w.heap.size bv (le t n)) ∧ Below w.heap.size w wr) (fun _ _ i _ => m - (intOf i).toNat)
  case atStart => exact ⟨0, rfl, Nat.zero_le _, by simp, Lib.hid (by rw [show le 0 n = [] by simp [le]]; exact OB.nil _ _), Below.refl _ _⟩
  case round =>
    obtain ⟨t, rfl, ht, rfl, H, hbr⟩ := hrel
    by_cases hlt : t < m
    · have hps := Lib.hid (pow_step n t)
      have hpn : 0 ≤ n / 256 ^ t ∧ n / 256 ^ t < 18446744073709551616 := by
        have hp : (0 : Int) < 256 ^ t := Int.pow_pos (by decide)
        refine ⟨Int.ediv_nonneg hn.1 (by omega), Int.lt_of_le_of_lt (Int.ediv_le_self _ hn.1) hn.2⟩
      have hls : le (t + 1) n = le t n ++ [n / 256 ^ t % 256] := by simp [le, List.range_succ]
      have Hls := Lib.hid hls
      clear hls
      have hll := le_length t n
      generalize n / 256 ^ t = q at hpn hps Hls
      have hsz := hbr.size
      have hqb : 0 ≤ q % 256 ∧ q % 256 < 256 := by omega
      go_wp2_with (at_builtin; refine wpList_app1 rfl (.tmp 12) (.tmp 16) 25 5 .u8 1 rfl Tryd.underlying25 oinfo5 (by decide) w.heap.size _ (le t n) (q % 256) rfl rfl H.out.1 (by omega) hsz ?_; intro v1 w1 ho1 hg1 _)
      go_roundw
      case rel => exact ⟨t + 1, by go_num, by omega, by rw [hps.out], Lib.hid ⟨by rw [Hls.out]; exact ho1, by rw [Hls.out]; intro x hx; rcases List.mem_append.1 hx with h | h; exact H.out.2 x h; simp at h; omega⟩, below_grownI hbr H.out.1 (Nat.le_refl _) hg1⟩
      case measure => simp [intOf]; omega
    · obtain rfl : t = m := by omega
      go_wp2
      go_ret
      exact ⟨_, rfl, H.out, hbr⟩
end Go.Proofs.YtblfmofhfbbmdaaDoor
