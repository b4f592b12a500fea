/- What the functions of package octet come to: the walks of may, Put, number, Join. -/
import Derived.Test.YtblfmofhfbbmdaaDoorOct0
set_option linter.unusedVariables false
set_option linter.unusedSimpArgs false
namespace Go.Proofs.YtblfmofhfbbmdaaDoor
open Go.RowKit

theorem oinfo5 : (Tryd.prog.info? 5).map (fun i => (i.zero, i.size, i.bytes)) = some (some (.int .u8 0), 1, 1) := by kernel_rfl
theorem oinfo64 : (Tryd.prog.info? 49).map (fun i => (i.zero, i.size, i.bytes)) = some (some (.int .u64 0), 1, 8) := by kernel_rfl

theorem may_yes (s : Int) (w : World) (h1 : 1 ≤ s) (h2 : s ≤ 8) : Calls Tryd.prog 78 #[.int .i64 s] w fun e w' => e = .returned (.bool true) ∧ w = w' := by
  go_enter Tryd.func78, Tryd.ntmps78
  go_wp2
  go_ret
  exact ⟨rfl, rfl⟩
theorem may_no (s : Int) (w : World) (h : ¬ (1 ≤ s ∧ s ≤ 8)) : Calls Tryd.prog 78 #[.int .i64 s] w fun e w' => e = .returned (.bool false) ∧ w = w' := by
  by_cases h1 : 1 ≤ s
  · have h2 : 8 < s := by omega
    have hd : decide (s ≤ 8) = false := decide_eq_false (by omega)
    clear h
    go_enter Tryd.func78, Tryd.ntmps78
    go_wp2
    go_ret
    exact ⟨rfl, rfl⟩
  · clear h
    go_enter Tryd.func78, Tryd.ntmps78
    go_wp2
    go_ret
    exact ⟨rfl, rfl⟩

theorem mk_bytes (m : Nat) (hn : m ≤ 281474976710656) : ∀ W : World, (Instr.makeSlice 25 (.int .i64 (m : Int)) (.int .i64 (m : Int))).run Tryd.prog W = .ok (.slice (some ⟨W.heap.size, 0, none⟩) m m) (W.alloc (.cells (madeCells #[.int .u8 0] m) 5)) := by
  intro W
  exact run_make_row' 25 5 (.int .u8 0) 1 Tryd.underlying25 oinfo5 rfl .i64 .i64 m (by omega) (by omega) W
theorem ob_made (W : World) (base m : Nat) (hb : base ≤ W.heap.size) (hm : m ≤ 9223372036854775807) : OB (W.alloc (.cells (madeCells #[.int .u8 0] m) 5)) base (.slice (some ⟨W.heap.size, 0, none⟩) m m) (List.replicate m 0) := by
  have h := World.ownsRow_lit (base := base) (e := 5) (size := 1) W (madeCells #[.int .u8 0] m) m hb (by simpa [maxLen] using hm) (by simp [size_madeCells])
  have hl : (madeCells #[Value.int .u8 0] m).toList = bytes (List.replicate m 0) := by
    apply List.ext_getElem
    · simp [bytes, madeCells]
    · intro i h1 h2
      simp [bytes, madeCells, Nat.mod_one]
  rw [hl] at h
  exact ⟨by rw [List.length_replicate]; exact h, fun x hx => by rw [(List.mem_replicate.1 hx).2]; omega⟩

set_option maxHeartbeats 1000000 in
theorem put_any (n s : Int) (w : World) (hn : 0 ≤ n ∧ n < 18446744073709551616) (hs : -9223372036854775808 ≤ s ∧ s ≤ 9223372036854775807) :
    Calls Tryd.prog 61 #[.int .u64 n, .int .i64 s] w fun e w' => ∃ v', e = .returned (.tuple #[v', .int .i64 (putE n s)]) ∧ OB w' w.heap.size v' (putL n s) ∧ Below w.heap.size w w' := by
  by_cases h : 1 ≤ s ∧ s ≤ 8
  · obtain ⟨h1, h2⟩ := h
    obtain ⟨m, rfl⟩ := Int.eq_ofNat_of_zero_le (by omega : 0 ≤ s)
    have hE1 : fits n m = true → putE n (m : Int) = 0 ∧ putL n (m : Int) = le m n := fun hf => by
      exact ⟨by rw [putE, if_pos ⟨h1, h2⟩, Int.toNat_natCast, if_pos hf], by rw [putL, if_pos ⟨h1, h2⟩, Int.toNat_natCast, if_pos hf]⟩
    have hE2 : ¬ fits n m = true → putE n (m : Int) = 10 ∧ putL n (m : Int) = [] := fun hf => by
      exact ⟨by rw [putE, if_pos ⟨h1, h2⟩, Int.toNat_natCast, if_neg hf], by rw [putL, if_pos ⟨h1, h2⟩, Int.toNat_natCast, if_neg hf]⟩
    have HE1 := Lib.hid hE1
    have HE2 := Lib.hid hE2
    clear hE1 hE2
    have hmk := mk_bytes m (by omega)
    have hm1 : 1 ≤ m := by omega
    have hm2 : m ≤ 8 := by omega
    have hob := ob_made w w.heap.size m (Nat.le_refl _) (by omega)
    rw [← leUpto_zero m n] at hob
    go_enter Tryd.func61, Tryd.ntmps61
    go_wp2_with (go_at_call 78; refine (may_yes _ _ h1 h2).mono ?_; rintro e w' ⟨rfl, rfl⟩)
    go_loopw [0, 15] (fun nv i wr => ∃ j : Nat, j ≤ m ∧ i = .int .i64 j ∧ nv = .int .u64 (n / 256 ^ j) ∧ OB wr w.heap.size (.slice (some ⟨w.heap.size, 0, none⟩) m m) (leUpto m j n) ∧ Below w.heap.size w wr) (fun _ i _ => m - (intOf i).toNat)
    case atStart => exact ⟨0, Nat.zero_le _, rfl, by simp, hob, (Below.refl _ _).alloc (Nat.le_refl _) _⟩
    case round =>
      obtain ⟨j, hj, rfl, rfl, hor, hbr⟩ := hrel
      clear hmk hob
      by_cases hlt : j < m
      · have hc := hor.cell j (by rw [leUpto_length]; exact hlt)
        have hf := hor.free j
        have hset := Lib.hid (hor.set j (by rw [leUpto_length]; exact hlt) (n / 256 ^ j % 256) (by omega))
        have hps := Lib.hid (pow_step n j)
        have hpn : 0 ≤ n / 256 ^ j ∧ n / 256 ^ j < 18446744073709551616 := by
          have hp : (0 : Int) < 256 ^ j := Int.pow_pos (by decide)
          refine ⟨Int.ediv_nonneg hn.1 (by omega), Int.lt_of_le_of_lt (Int.ediv_le_self _ hn.1) hn.2⟩
        generalize hq : n / 256 ^ j = q at hpn hps hset
        have Hq := Lib.hid hq
        clear hq
        generalize (leUpto m j n)[j]?.getD 0 = c0 at hc
        go_wp2
        go_roundw
        case rel => exact ⟨j + 1, by omega, by go_num, by rw [hps.out], by have := hset.out; rw [← Hq.out, leUpto_set m j n hlt] at this; rw [← Hq.out]; exact this, hbr.setCell (by simp) _⟩
        case measure => simp [intOf]; omega
      · obtain rfl : j = m := by omega
        rw [leUpto_full] at hor
        by_cases hfit : fits n j = true
        · have HF := Lib.hid hfit
          have hz : (n / 256 ^ j == 0) = true := hfit
          have hz2 : (n / 256 ^ j != 0) = false := by simp only [bne, hz, Bool.not_true]
          generalize n / 256 ^ j = q at hz hz2 ⊢
          clear hfit hz
          go_wp2_with fail
          go_ret2
          exact ⟨_, by rw [(HE1.out HF.out).1]; rfl, by rw [(HE1.out HF.out).2]; exact hor, hbr⟩
        · have HF := Lib.hid hfit
          have hz : (n / 256 ^ j == 0) = false := by simpa [fits] using hfit
          have hz2 : (n / 256 ^ j != 0) = true := by simp only [bne, hz, Bool.not_false]
          generalize n / 256 ^ j = q at hz hz2 ⊢
          clear hfit hz
          go_wp2_with fail
          go_ret2
          exact ⟨_, by rw [(HE2.out HF.out).1]; rfl, by rw [(HE2.out HF.out).2]; exact OB.nil _ _, hbr⟩
  · have hE : putE n s = 2 := by rw [putE, if_neg h]
    have hL : putL n s = [] := by rw [putL, if_neg h]
    rw [hE, hL]
    clear hE hL
    go_enter Tryd.func61, Tryd.ntmps61
    go_wp2_with (go_at_call 78; refine (may_no _ _ h).mono ?_; rintro e w' ⟨rfl, rfl⟩)
    go_ret2
    exact ⟨_, rfl, OB.nil _ _, Below.refl _ _⟩

set_option maxHeartbeats 1000000 in
theorem number_any (v : Value) (xs : List Int) (w : World) (hv : RBy w v xs) :
    Calls Tryd.prog 80 #[v] w fun e w' => e = .returned (.int .u64 (numU xs)) ∧ w = w' := by
  obtain ⟨A', c', rfl, hc', hn', hb', hA', hcell'⟩ := hv
  go_enter Tryd.func80, Tryd.ntmps80
  go_wp2
  go_loop [3, 4] (fun nv i => ∃ j : Nat, j ≤ xs.length ∧ i = .int .i64 ((j : Int) - 1) ∧ nv = .int .u64 (numU (xs.drop j))) (fun _ i => ((intOf i) + 1).toNat)
  case atStart => exact ⟨xs.length, Nat.le_refl _, rfl, by rw [List.drop_length]; rfl⟩
  case round =>
    obtain ⟨j, hj, rfl, rfl⟩ := hrel
    by_cases h0 : 0 < j
    · obtain ⟨i, rfl⟩ : ∃ i, j = i + 1 := ⟨j - 1, by omega⟩
      have hi : i < xs.length := by omega
      have e1 : ((i + 1 : Nat) : Int) - 1 = (i : Int) := by omega
      rw [e1]
      obtain ⟨ad', rfl, hcs'⟩ := hcell' (by omega)
      have hx := hcs' i hi
      have hxr : 0 ≤ xs[i]?.getD 0 ∧ xs[i]?.getD 0 < 256 := by
        rw [List.getElem?_eq_getElem hi]; exact hb' _ (List.getElem_mem hi)
      have hnr := numU_range (xs.drop (i + 1))
      have hnum := Lib.hid ((or_byte (numU (xs.drop (i + 1))) (xs[i]?.getD 0) hnr hxr).trans (numU_drop xs i hi).symm)
      generalize numU (xs.drop (i + 1)) = q at hnum hnr
      generalize xs[i]?.getD 0 = c at hx hxr hnum
      clear hcell' hcs' hb' e1
      go_wp2
      go_round
      case rel => exact ⟨i, by omega, rfl, by rw [← hnum.out]⟩
      case measure => simp [intOf]
    · obtain rfl : j = 0 := by omega
      go_wp2
      go_ret
      exact ⟨rfl, rfl⟩

set_option maxHeartbeats 1000000 in
/-- Join: of parts that are together no longer than a slice may be. -/
theorem ojoin_any (v : Value) (xss : List (List Int)) (w : World) (hv : RBs w v xss) (hlen : xss.flatten.length ≤ 140737488355328) :
    Calls Tryd.prog 79 #[v] w fun e w' => ∃ v', e = .returned v' ∧ OB w' w.heap.size v' xss.flatten ∧ Below w.heap.size w w' := by
  obtain ⟨A, c, rfl, hc, hn, hcell⟩ := hv
  go_enter Tryd.func79, Tryd.ntmps79
  go_wp2
  go_loopw [3, 8] (fun ov i wr => ∃ k : Nat, k ≤ xss.length ∧ i = .int .i64 k ∧ OB wr w.heap.size ov (xss.take k).flatten ∧ Below w.heap.size w wr) (fun _ i _ => xss.length - (intOf i).toNat)
  case atStart => exact ⟨0, Nat.zero_le _, rfl, OB.nil _ _, Below.refl _ _⟩
  case round =>
    obtain ⟨k, hk, rfl, hor, hbr⟩ := hrel
    by_cases hlt : k < xss.length
    · obtain ⟨ad, rfl, hcs⟩ := hcell (by omega)
      obtain ⟨u, hu0, hr0⟩ := hcs k hlt
      have hu := keep_cell hbr (Nat.le_refl _) hu0
      have hr := hr0.below hbr
      clear hcell hcs hu0 hr0
      have hfl : (xss.take (k + 1)).flatten = (xss.take k).flatten ++ (xss[k]?.getD []) := by
        rw [List.take_succ_eq_append_getElem hlt, List.flatten_append, List.getElem?_eq_getElem hlt]; simp
      have hle : (xss.take (k + 1)).flatten.length ≤ xss.flatten.length := by
        conv => rhs; rw [← List.take_append_drop (k + 1) xss, List.flatten_append, List.length_append]
        omega
      rw [hfl, List.length_append] at hle
      obtain ⟨xs, hxs⟩ : ∃ xs, xss[k]?.getD [] = xs := ⟨_, rfl⟩
      rw [hxs] at hr hfl hle
      have hsz := hbr.size
      have Hfl := Lib.hid hfl
      clear hxs hfl
      go_wp2_with (at_builtin; refine wpList_app rfl (.tmp 12) (.tmp 13) 25 rfl Tryd.underlying25 oinfo5 w.heap.size _ u (xss.take k).flatten xs rfl rfl hor hr (by omega) hsz ?_; intro v1 w1 ho1 hg1 _)
      go_roundw
      case rel => exact ⟨k + 1, by omega, by go_num, by rw [Hfl.out]; exact ho1, below_grown hbr hor (Nat.le_refl _) hg1⟩
      case measure => simp [intOf]; omega
    · go_wp2
      go_ret
      exact ⟨_, rfl, by rw [List.take_of_length_le (by omega)] at hor; exact hor, hbr⟩
end Go.Proofs.YtblfmofhfbbmdaaDoor
