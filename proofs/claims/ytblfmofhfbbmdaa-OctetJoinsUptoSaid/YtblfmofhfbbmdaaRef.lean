/- What the reference's functions of layer 1 come to: the same plain functions. -/
import Derived.Test.YtblfmofhfbbmdaaOct3
import Derived.BigQuiet
set_option linter.unusedVariables false
set_option linter.unusedSimpArgs false
namespace Go.Proofs.Ytblfmofhfbbmdaa
open Go.RowKit

theorem le_succ (j : Nat) (n : Int) : le (j + 1) n = le j n ++ [n / 256 ^ j % 256] := by
  simp [le, List.range_succ]

set_option maxHeartbeats 1000000 in
theorem rput_any (n s : Int) (w : World) (hn : 0 ≤ n ∧ n < 18446744073709551616) (hs : -9223372036854775808 ≤ s ∧ s ≤ 9223372036854775807) :
    Calls Try.prog 15 #[.int .u64 n, .int .i64 s] w fun e w' => ∃ v', e = .returned (.tuple #[v', .int .i64 (putE n s)]) ∧ OB w' w.heap.size v' (putL n s) ∧ Below w.heap.size w w' := by
  by_cases h1 : s < 1
  · have hE : putE n s = 2 ∧ putL n s = [] := ⟨by rw [putE, if_neg (by omega)], by rw [putL, if_neg (by omega)]⟩
    rw [hE.1, hE.2]
    clear hE
    go_enter Try.func15, Try.ntmps15
    go_wp2
    go_ret2
    exact ⟨_, rfl, OB.nil _ _, Below.refl _ _⟩
  by_cases h2 : 8 < s
  · have hE : putE n s = 2 ∧ putL n s = [] := ⟨by rw [putE, if_neg (by omega)], by rw [putL, if_neg (by omega)]⟩
    rw [hE.1, hE.2]
    clear hE
    go_enter Try.func15, Try.ntmps15
    go_wp2
    go_ret2
    exact ⟨_, rfl, OB.nil _ _, Below.refl _ _⟩
  obtain ⟨m, rfl⟩ := Int.eq_ofNat_of_zero_le (by omega : 0 ≤ s)
  have hE1 : fits n m = true → putE n (m : Int) = 0 ∧ putL n (m : Int) = le m n := fun hf => by
    exact ⟨by rw [putE, if_pos (by omega), Int.toNat_natCast, if_pos hf], by rw [putL, if_pos (by omega), Int.toNat_natCast, if_pos hf]⟩
  have hE2 : ¬ fits n m = true → putE n (m : Int) = 10 ∧ putL n (m : Int) = [] := fun hf => by
    exact ⟨by rw [putE, if_pos (by omega), Int.toNat_natCast, if_neg hf], by rw [putL, if_pos (by omega), Int.toNat_natCast, if_neg hf]⟩
  have HE1 := Lib.hid hE1
  have HE2 := Lib.hid hE2
  clear hE1 hE2
  go_enter Try.func15, Try.ntmps15
  go_wp2
  go_loopw [0, 6, 7] (fun nv ov i wr => ∃ j : Nat, j ≤ m ∧ i = .int .i64 j ∧ nv = .int .u64 (n / 256 ^ j) ∧ OB wr w.heap.size ov (le j n) ∧ Below w.heap.size w wr) (fun _ _ i _ => m - (intOf i).toNat)
  case atStart => exact ⟨0, Nat.zero_le _, rfl, by simp, OB.nil _ _, Below.refl _ _⟩
  case round =>
    obtain ⟨j, hj, rfl, rfl, hor, hbr⟩ := hrel
    by_cases hlt : j < m
    · have hls := Lib.hid (le_succ j n)
      have hps := Lib.hid (pow_step n j)
      have hlen : (le j n).length ≤ 8 := by rw [le_length]; omega
      have hpn : 0 ≤ n / 256 ^ j ∧ n / 256 ^ j < 18446744073709551616 := by
        have hp : (0 : Int) < 256 ^ j := Int.pow_pos (by decide)
        refine ⟨Int.ediv_nonneg hn.1 (by omega), Int.lt_of_le_of_lt (Int.ediv_le_self _ hn.1) hn.2⟩
      generalize n / 256 ^ j = q at hpn hps hls
      generalize le j n = L at hor hls hlen
      have hq : IntKind.u8.wrap (q % 256) = q % 256 := by simp [IntKind.wrap, IntKind.bits, IntKind.signed]
      have hsz := hbr.size
      have hor1 := hor.below (below_alloc (Below.refl wr.heap.size wr) (.cells #[.int .u8 (q % 256)] 5))
      have hbox := RBy.box wr (q % 256) (by omega)
      have Hbox := Lib.hid hbox
      have hlen2 : L.length + [q % 256].length ≤ 140737488355328 := by simp; omega
      have hsz2 : w.heap.size ≤ (wr.alloc (.cells #[.int .u8 (q % 256)] 5)).heap.size := by simp; omega
      have Hsz2 := Lib.hid hsz2
      have Hlen2 := Lib.hid hlen2
      clear hbox hsz2 hlen2
      go_wp2_with (at_builtin; refine wpList_app rfl (.tmp 19) (.tmp 23) 23 rfl Try.underlying23 oinfo5 w.heap.size _ _ L [q % 256] rfl rfl hor1 Hbox.out Hlen2.out Hsz2.out ?_; intro v1 w1 ho1 hg1 _)
      go_roundw
      case rel => exact ⟨j + 1, by omega, by go_num, by rw [← hps.out], by rw [hls.out]; exact ho1, below_grown (below_alloc hbr _) hor1 (Nat.le_refl _) hg1⟩
      case measure => simp [intOf]; omega
    · obtain rfl : j = m := by omega
      by_cases hfit : fits n j = true
      · have HF := Lib.hid hfit
        have hz : (n / 256 ^ j == 0) = true := hfit
        have hz2 : (n / 256 ^ j != 0) = false := by simp only [bne, hz, Bool.not_true]
        generalize n / 256 ^ j = q at hz hz2 ⊢
        clear hfit hz
        go_wp2_with fail
        go_ret2
        exact ⟨_, by rw [(HE1.out HF.out).1]; rfl, by rw [(HE1.out HF.out).2]; exact hor, hbr⟩
      · have HF := Lib.hid hfit
        have hz : (n / 256 ^ j == 0) = false := by simpa [fits] using hfit
        have hz2 : (n / 256 ^ j != 0) = true := by simp only [bne, hz, Bool.not_false]
        generalize n / 256 ^ j = q at hz hz2 ⊢
        clear hfit hz
        go_wp2_with fail
        go_ret2
        exact ⟨_, by rw [(HE2.out HF.out).1]; rfl, by rw [(HE2.out HF.out).2]; exact OB.nil _ _, hbr⟩

set_option maxHeartbeats 1000000 in
theorem worth_any (v : Value) (xs : List Int) (w : World) (hv : RBy w v xs) :
    Calls Try.prog 34 #[v] w fun e w' => e = .returned (.int .u64 (numU xs)) ∧ w = w' := by
  obtain ⟨A', c', rfl, hc', hn', hb', hA', hcell'⟩ := hv
  go_enter Try.func34, Try.ntmps34
  go_wp2
  go_loop [3, 4] (fun nv i => ∃ j : Nat, j ≤ xs.length ∧ i = .int .i64 ((j : Int) - 1) ∧ nv = .int .u64 (numU (xs.drop j))) (fun _ i => ((intOf i) + 1).toNat)
  case atStart => exact ⟨xs.length, Nat.le_refl _, rfl, by rw [List.drop_length]; rfl⟩
  case round =>
    obtain ⟨j, hj, rfl, rfl⟩ := hrel
    by_cases h0 : 0 < j
    · obtain ⟨i, rfl⟩ : ∃ i, j = i + 1 := ⟨j - 1, by omega⟩
      have hi : i < xs.length := by omega
      have e1 : ((i + 1 : Nat) : Int) - 1 = (i : Int) := by omega
      rw [e1]
      obtain ⟨ad', rfl, hcs'⟩ := hcell' (by omega)
      have hx := hcs' i hi
      have hxr : 0 ≤ xs[i]?.getD 0 ∧ xs[i]?.getD 0 < 256 := by
        rw [List.getElem?_eq_getElem hi]; exact hb' _ (List.getElem_mem hi)
      have hnr := numU_range (xs.drop (i + 1))
      have hnum := Lib.hid (numU_drop xs i hi)
      generalize numU (xs.drop (i + 1)) = q at hnum hnr
      generalize xs[i]?.getD 0 = c at hx hxr hnum
      clear hcell' hcs' hb' e1
      go_wp2
      go_round
      case rel => exact ⟨i, by omega, rfl, by rw [hnum.out]; simp [IntKind.wrap, IntKind.bits, IntKind.signed]; omega⟩
      case measure => simp [intOf]
    · obtain rfl : j = 0 := by omega
      go_wp2
      go_ret
      exact ⟨rfl, rfl⟩

set_option maxHeartbeats 1000000 in
theorem rtake_any (v : Value) (xs : List Int) (s : Int) (w : World) (hv : RBy w v xs) (hs : -9223372036854775808 ≤ s ∧ s ≤ 9223372036854775807) (hxl : xs.length ≤ 140737488355328) :
    Calls Try.prog 17 #[v, .int .i64 s] w fun e w' => ∃ v2, e = .returned (.tuple #[.int .u64 (takeF xs s).1, v2, .int .i64 (takeF xs s).2.2]) ∧ OB w' w.heap.size v2 (takeF xs s).2.1 ∧ Below w.heap.size w w' := by
  obtain ⟨Ab, cb, rfl, hcb, hnb, -, -, hcells⟩ := id hv
  by_cases h1 : s < 1
  · have hE : takeF xs s = (0, [], 2) := by rw [takeF, if_neg (by unfold okSize; omega)]
    rw [hE]
    clear hE
    go_enter Try.func17, Try.ntmps17
    go_wp2
    go_ret3
    exact ⟨_, rfl, OB.nil _ _, Below.refl _ _⟩
  by_cases h2 : 8 < s
  · have hE : takeF xs s = (0, [], 2) := by rw [takeF, if_neg (by unfold okSize; omega)]
    rw [hE]
    clear hE
    go_enter Try.func17, Try.ntmps17
    go_wp2
    go_ret3
    exact ⟨_, rfl, OB.nil _ _, Below.refl _ _⟩
  obtain ⟨m, rfl⟩ := Int.eq_ofNat_of_zero_le (by omega : 0 ≤ s)
  by_cases h3 : xs.length < m
  · have hE : takeF xs m = (0, [], 11) := by rw [takeF, if_pos (by unfold okSize; omega), if_pos (by omega)]
    rw [hE]
    clear hE
    go_enter Try.func17, Try.ntmps17
    go_wp2
    go_ret3
    exact ⟨_, rfl, OB.nil _ _, Below.refl _ _⟩
  · have hE : takeF xs m = (numU (xs.take m), xs.drop m, 0) := by rw [takeF, if_pos (by unfold okSize; omega), if_neg (by omega), Int.toNat_natCast]
    rw [hE]
    clear hE
    obtain ⟨ad, rfl, -⟩ := hcells (by omega)
    have Hfirst := Lib.hid (hv.first (m := m) (by omega))
    have hrest := hv.rest (s := m) (by omega)
    have hap := apply_ite some (cb = m) ad (ad.add m)
    obtain ⟨A, hA, hrest⟩ : ∃ A, (if cb = m then some ad else some (ad.add m)) = some A ∧ RBy w (.slice (some A) (xs.length - m) (cb - m)) (xs.drop m) := ⟨_, hap.symm, hrest⟩
    have Hrest := Lib.hid hrest
    have hdl : (xs.drop m).length ≤ 140737488355328 := by rw [List.length_drop]; omega
    have Hdl := Lib.hid hdl
    have Hv := Lib.hid hv
    clear hrest hap hcells hv hdl
    have hmc : m ≤ cb := by omega
    have hml : m ≤ xs.length := by omega
    go_enter Try.func17, Try.ntmps17
    go_wp2
    have hd0 := Lib.hid (below_drew (Below.refl w.heap.size w))
    have hd1 := Lib.hid (below_drew (below_alloc (Below.refl w.heap.size w) (.cells #[] 5)))
    have hob := Lib.hid ((own_bare w).below (below_drew (Below.refl _ _)))
    have hsz := Lib.hid (show w.heap.size ≤ (w.alloc (.cells #[] 5)).drew.heap.size from hd1.out.size)
    have hl0 := Lib.hid (show ([] : List Int).length + (xs.drop m).length ≤ 140737488355328 by simpa using Hdl.out)
    go_region_law (first
      | (refine step_app rfl (.tmp 21) (.tmp 24) 23 rfl Try.underlying23 oinfo5 w.heap.size (.slice (some ⟨w.heap.size, 0, none⟩) 0 0) (.slice (some A) (xs.length - m) (cb - m)) [] (xs.drop m) (by simp [Act.eval, Act.put]) (by simp [Act.eval, Act.put]) hob.out (Hrest.out.below hd1.out) hl0.out hsz.out ?_; intro v1 w1 ho1 hg1 _; have hd2 := Lib.hid (below_grown hd1.out hob.out (Nat.le_refl _) hg1); have ho1 := Lib.hid ho1; clear hg1)
      | (go_simp; go_at_call 34; refine (worth_any _ _ _ (Hfirst.out.below hd0.out)).mono ?_; rintro e w' ⟨rfl, rfl⟩)
      | (go_simp; go_at_call 34; refine (worth_any _ _ _ (Hfirst.out.below hd1.out)).mono ?_; rintro e w' ⟨rfl, rfl⟩)
      | (go_simp; go_at_call 34; refine (worth_any _ _ _ (Hfirst.out.below hd2.out)).mono ?_; rintro e w' ⟨rfl, rfl⟩))
    all_goals (go_wp2_with fail; go_ret3; exact ⟨_, rfl, ho1.out, hd2.out⟩)

set_option maxHeartbeats 1000000 in
theorem rjoin_any (v : Value) (xss : List (List Int)) (w : World) (hv : RBs w v xss) (hlen : xss.flatten.length ≤ 140737488355328) :
    Calls Try.prog 27 #[v] w fun e w' => ∃ v', e = .returned v' ∧ OB w' w.heap.size v' xss.flatten ∧ Below w.heap.size w w' := by
  obtain ⟨A, c, rfl, hc, hn, hcell⟩ := hv
  go_enter Try.func27, Try.ntmps27
  go_wp2
  go_loopw [3, 4] (fun ov i wr => ∃ k : Nat, k ≤ xss.length ∧ i = .int .i64 k ∧ OB wr w.heap.size ov (xss.take k).flatten ∧ Below w.heap.size w wr) (fun _ i _ => xss.length - (intOf i).toNat)
  case atStart => exact ⟨0, Nat.zero_le _, rfl, OB.nil _ _, Below.refl _ _⟩
  case round =>
    obtain ⟨k, hk, rfl, hor, hbr⟩ := hrel
    by_cases hlt : k < xss.length
    · obtain ⟨ad, rfl, hcs⟩ := hcell (by omega)
      obtain ⟨u, hu0, hr0⟩ := hcs k hlt
      have hu := keep_cell hbr (Nat.le_refl _) hu0
      have hr := hr0.below hbr
      clear hcell hcs hu0 hr0
      have hfl : (xss.take (k + 1)).flatten = (xss.take k).flatten ++ (xss[k]?.getD []) := by
        rw [List.take_succ_eq_append_getElem hlt, List.flatten_append, List.getElem?_eq_getElem hlt]; simp
      have hle : (xss.take (k + 1)).flatten.length ≤ xss.flatten.length := by
        conv => rhs; rw [← List.take_append_drop (k + 1) xss, List.flatten_append, List.length_append]
        omega
      rw [hfl, List.length_append] at hle
      obtain ⟨xs, hxs⟩ : ∃ xs, xss[k]?.getD [] = xs := ⟨_, rfl⟩
      rw [hxs] at hr hfl hle
      have hsz := hbr.size
      have Hfl := Lib.hid hfl
      clear hxs hfl
      go_wp2_with (at_builtin; refine wpList_app rfl (.tmp 11) (.tmp 15) 23 rfl Try.underlying23 oinfo5 w.heap.size _ u (xss.take k).flatten xs rfl rfl hor hr (by omega) hsz ?_; intro v1 w1 ho1 hg1 _)
      go_roundw
      case rel => exact ⟨k + 1, by omega, by go_num, by rw [Hfl.out]; exact ho1, below_grown hbr hor (Nat.le_refl _) hg1⟩
      case measure => simp [intOf]; omega
    · go_wp2
      go_ret
      exact ⟨_, rfl, by rw [List.take_of_length_le (by omega)] at hor; exact hor, hbr⟩

set_option maxHeartbeats 1000000 in
theorem rblank_any (v : Value) (xs : List Int) (w : World) (hv : RBy w v xs) :
    Calls Try.prog 30 #[v] w fun e w' => e = .returned (.bool (blankF xs)) ∧ w = w' := by
  obtain ⟨A', c', rfl, hc', hn', hb', hA', hcell'⟩ := hv
  have hno : ∀ j, j < xs.length → xs[j]?.getD 0 ≠ 0 → blankF xs = false := fun j hj h0 => by
    rw [List.getElem?_eq_getElem hj] at h0
    exact List.all_eq_false.2 ⟨_, List.getElem_mem hj, by simpa using h0⟩
  have hyes : (∀ j, j < xs.length → xs[j]?.getD 0 = 0) → blankF xs = true := fun h => by
    refine List.all_eq_true.2 fun x hx => ?_
    obtain ⟨j, hj, rfl⟩ := List.mem_iff_getElem.1 hx
    have := h j hj
    rw [List.getElem?_eq_getElem hj] at this
    simpa using this
  have Hno := Lib.hid hno
  have Hyes := Lib.hid hyes
  clear hno hyes
  go_enter Try.func30, Try.ntmps30
  go_wp2
  go_loop [3] (fun i => ∃ j : Nat, j ≤ xs.length ∧ i = .int .i64 (j : Int) ∧ Aside1 (∀ k, k < j → xs[k]?.getD 0 = 0)) (fun i => xs.length - (intOf i).toNat)
  case atStart => exact ⟨0, Nat.zero_le _, rfl, ⟨fun k hk => by omega⟩⟩
  case round =>
    obtain ⟨j, hj, rfl, hall⟩ := hrel
    by_cases hlt : j < xs.length
    · obtain ⟨ad', rfl, hcs'⟩ := hcell' (by omega)
      have hx := hcs' j hlt
      clear hcell' hcs' hb'
      by_cases h0 : xs[j]?.getD 0 = 0
      · have hall2 : Aside1 (∀ k, k < j + 1 → xs[k]?.getD 0 = 0) := ⟨fun k hk => by
          by_cases e : k = j
          · subst e; exact h0
          · exact hall.out k (by omega)⟩
        rw [h0] at hx
        go_wp2
        go_round
        case rel => exact ⟨j + 1, by omega, by go_num, hall2⟩
        case measure => simp [intOf]; omega
      · have Hf := Lib.hid (Hno.out j hlt h0)
        generalize xs[j]?.getD 0 = c at hx h0
        have hne : (c != 0) = true := by simp [bne, h0]
        clear h0
        go_wp2
        go_ret
        exact ⟨by rw [Hf.out]; rfl, rfl⟩
    · have Hf := Lib.hid (Hyes.out fun k hk => hall.out k (by omega))
      go_wp2
      go_ret
      exact ⟨by rw [Hf.out]; rfl, rfl⟩

set_option maxHeartbeats 1000000 in
theorem rpad_any (v : Value) (xs : List Int) (s : Int) (w : World) (hv : RBy w v xs) (hs : -9223372036854775808 ≤ s ∧ s ≤ 9223372036854775807) :
    Calls Try.prog 31 #[v, .int .i64 s] w fun e w' => ∃ v1, e = .returned (.tuple #[v1, .int .i64 (padF xs s).2]) ∧ OB w' w.heap.size v1 (padF xs s).1 ∧ Below w.heap.size w w' := by
  obtain ⟨Ab, cb, rfl, hcb, hnb, -, -, -⟩ := id hv
  by_cases h1 : s < 0
  · have hE : padF xs s = ([], 2) := by rw [padF, if_pos (Or.inl h1)]
    rw [hE]
    clear hE
    go_enter Try.func31, Try.ntmps31
    go_wp2
    go_ret2
    exact ⟨_, rfl, OB.nil _ _, Below.refl _ _⟩
  by_cases h2 : 64 < s
  · have hE : padF xs s = ([], 2) := by rw [padF, if_pos (Or.inr h2)]
    rw [hE]
    clear hE
    go_enter Try.func31, Try.ntmps31
    go_wp2
    go_ret2
    exact ⟨_, rfl, OB.nil _ _, Below.refl _ _⟩
  obtain ⟨m, rfl⟩ := Int.eq_ofNat_of_zero_le (by omega : 0 ≤ s)
  by_cases h3 : m < xs.length
  · have hE : padF xs m = ([], 10) := by rw [padF, if_neg (by omega), if_pos (by omega)]
    rw [hE]
    clear hE
    go_enter Try.func31, Try.ntmps31
    go_wp2
    go_ret2
    exact ⟨_, rfl, OB.nil _ _, Below.refl _ _⟩
  · have hE : padF xs m = (xs ++ List.replicate (m - xs.length) 0, 0) := by
      rw [padF, if_neg (by omega), if_neg (by omega), show ((m : Int) - (xs.length : Int)).toNat = m - xs.length by omega]
    rw [hE]
    clear hE
    have hd1 := Lib.hid (below_alloc (Below.refl w.heap.size w) (.cells #[] 5))
    have hob := Lib.hid (own_bare w)
    have hv0 := Lib.hid (hv.below hd1.out)
    have hl0 := Lib.hid (show ([] : List Int).length + xs.length ≤ 140737488355328 by simp; omega)
    have hsz := Lib.hid hd1.out.size
    clear hv
    go_enter Try.func31, Try.ntmps31
    go_wp2_with (at_builtin; refine wpList_app rfl (.tmp 17) (.tmp 18) 23 rfl Try.underlying23 oinfo5 w.heap.size _ _ [] xs rfl rfl hob.out hv0.out hl0.out hsz.out ?_; intro v1 w1 ho1 hg1 _; have hd2 := Lib.hid (below_grown hd1.out hob.out (Nat.le_refl _) hg1); replace ho1 := Lib.hid ho1; clear hg1)
    go_loopw [6] (fun ov wr => ∃ (L : List Int) (A : Option Addr) (c : Nat), ov = .slice A L.length c ∧ L.length ≤ c ∧ xs.length ≤ L.length ∧ L.length ≤ m ∧ Hid (L = xs ++ List.replicate (L.length - xs.length) 0) ∧ OB wr w.heap.size ov L ∧ Below w.heap.size w wr) (fun ov _ => m - vlen ov)
    case atStart =>
      obtain ⟨A, c, e, hc⟩ := ho1.out.reads.form
      exact ⟨xs, A, c, e, hc, Nat.le_refl _, by omega, by simp [Hid], ho1.out, hd2.out⟩
    case round =>
      obtain ⟨L, A, c, rfl, hc, hL1, hL2, hLe, hor, hbr⟩ := hrel
      by_cases hlt : L.length < m
      · have hor1 := hor.below (below_alloc (Below.refl wr.heap.size wr) (.cells #[.int .u8 0] 5))
        have Hbox := Lib.hid (RBy.box wr 0 (by omega))
        have hsz := hbr.size
        have Hsz2 := Lib.hid (show w.heap.size ≤ (wr.alloc (.cells #[.int .u8 0] 5)).heap.size by simp; omega)
        have Hlen2 := Lib.hid (show L.length + [(0 : Int)].length ≤ 140737488355328 by simp; omega)
        have hL3 : L ++ [0] = xs ++ List.replicate (L.length + 1 - xs.length) 0 := by
          conv => lhs; rw [hLe.out]
          rw [List.append_assoc, show L.length + 1 - xs.length = (L.length - xs.length) + 1 by omega, List.replicate_succ']
        have HL3 := Lib.hid hL3
        clear hL3
        go_wp2_with (at_builtin; refine wpList_app rfl (.tmp 24) (.tmp 25) 23 rfl Try.underlying23 oinfo5 w.heap.size _ _ L [0] rfl rfl hor1 Hbox.out Hlen2.out Hsz2.out ?_; intro v2 w2 ho2 hg2 _; have hb2 := Lib.hid (below_grown (below_alloc hbr _) hor1 (Nat.le_refl _) hg2); obtain ⟨A2, c2, rfl, hc2⟩ := ho2.reads.form; have ho2 := Lib.hid ho2; clear hg2)
        go_roundw
        case rel => exact ⟨L ++ [0], A2, c2, by simp, hc2, by simp; omega, by simp; omega, by simpa using HL3, by simpa using ho2.out, hb2.out⟩
        case measure => simp [vlen]; omega
      · have e : L.length = m := by omega
        rw [e] at hLe hor
        have hge : ¬ (L.length : Int) < (m : Int) := by omega
        go_wp2
        go_ret2
        exact ⟨_, rfl, by rw [hLe.out] at hor; exact hor, hbr⟩

set_option maxHeartbeats 1000000 in
/-- Are two rows of numbers the same? -/
theorem same_any (v u : Value) (xs ys : List Int) (w : World) (hv : RI .u64 w v xs) (hu : RI .u64 w u ys) :
    Calls Try.prog 24 #[v, u] w fun e w' => e = .returned (.bool (decide (xs = ys))) ∧ Below w.heap.size w w' := by
  obtain ⟨A, c, rfl, hc, hn, hA, hcell⟩ := hv
  obtain ⟨B, d, rfl, hd, hm, hB, hcellB⟩ := hu
  by_cases hl : xs.length = ys.length
  · have hno : ∀ j, j < xs.length → xs[j]?.getD 0 ≠ ys[j]?.getD 0 → decide (xs = ys) = false := fun j hj h0 => by
      refine decide_eq_false fun e => h0 ?_
      rw [e]
    have hyes : (∀ j, j < xs.length → xs[j]?.getD 0 = ys[j]?.getD 0) → decide (xs = ys) = true := fun h => by
      refine decide_eq_true (List.ext_getElem hl fun j h1 h2 => ?_)
      have := h j h1
      rwa [List.getElem?_eq_getElem h1, List.getElem?_eq_getElem h2] at this
    have Hno := Lib.hid hno
    have Hyes := Lib.hid hyes
    clear hno hyes
    have Hl := Lib.hid hl
    rw [← hl] at hcellB hm hd
    go_enter Try.func24, Try.ntmps24
    rw [← Hl.out]
    go_wp2
    go_loopw [5] (fun i wr => ∃ j : Nat, j ≤ xs.length ∧ i = .int .i64 (j : Int) ∧ Aside1 (∀ k, k < j → xs[k]?.getD 0 = ys[k]?.getD 0) ∧ Below w.heap.size w wr) (fun i _ => xs.length - (intOf i).toNat)
    case atStart => exact ⟨0, Nat.zero_le _, rfl, ⟨fun k hk => by omega⟩, Below.refl _ _⟩
    case round =>
      obtain ⟨j, hj, rfl, hall, hbr⟩ := hrel
      by_cases hlt : j < xs.length
      · obtain ⟨ad, rfl, hcs⟩ := hcell (by omega)
        obtain ⟨ae, rfl, hds⟩ := hcellB (by omega)
        have hx := keep_cell hbr (Nat.le_refl _) (hcs j hlt)
        have hy := keep_cell hbr (Nat.le_refl _) (hds j hlt)
        clear hcell hcs hcellB hds
        by_cases h0 : xs[j]?.getD 0 = ys[j]?.getD 0
        · have hall2 : Aside1 (∀ k, k < j + 1 → xs[k]?.getD 0 = ys[k]?.getD 0) := ⟨fun k hk => by
            by_cases e : k = j
            · subst e; exact h0
            · exact hall.out k (by omega)⟩
          rw [← h0] at hy
          generalize xs[j]?.getD 0 = c0 at hx hy
          go_wp2
          go_quiet (fail)
          go_wp2
          go_roundw
          case rel => exact ⟨j + 1, by omega, by go_num, hall2, below_drewN hbr _⟩
          case measure => simp [intOf]; omega
        · have Hf := Lib.hid (Hno.out j hlt h0)
          generalize xs[j]?.getD 0 = c0 at hx h0
          generalize ys[j]?.getD 0 = d0 at hy h0
          have hne : (c0 != d0) = true := by simp [bne, h0]
          clear h0
          go_wp2
          go_quiet (fail)
          go_wp2
          go_ret
          exact ⟨by rw [Hf.out]; rfl, below_drewN hbr _⟩
      · have Hf := Lib.hid (Hyes.out fun k hk => hall.out k (by omega))
        go_wp2
        go_ret
        exact ⟨by rw [Hf.out]; rfl, hbr⟩
  · have hf : decide (xs = ys) = false := decide_eq_false fun e => hl (by rw [e])
    have Hf := Lib.hid hf
    have hne : ((xs.length : Int) != (ys.length : Int)) = true := by simp only [bne, Bool.not_eq_true', beq_eq_false_iff_ne]; omega
    have hli : ¬ (xs.length : Int) = (ys.length : Int) := by omega
    clear hf
    go_enter Try.func24, Try.ntmps24
    go_wp2
    go_ret
    exact ⟨by rw [Hf.out]; rfl, Below.refl _ _⟩
end Go.Proofs.Ytblfmofhfbbmdaa
