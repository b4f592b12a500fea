/- The reference of package sum (wicketref02): the walks of its functions; they come to the same numbers. -/
import Derived.Test.YtblfmofhfbbmdaaDoorSum
import Derived.Deep.RegionHeld3
set_option linter.unusedVariables false
set_option linter.unusedSimpArgs false
namespace Go.Proofs.YtblfmofhfbbmdaaDoor
open Go.RowKit Crc

set_option maxHeartbeats 1000000 in
theorem rpush_any (x c : Int) (w : World) (hx : 0 ≤ x ∧ x < 4294967296) (hc : 0 ≤ c ∧ c < 256) :
    Calls Tryd.prog 58 #[.int .u32 x, .int .u8 c] w fun e w' => e = .returned (.int .u32 (un (it 8 (bv x ^^^ bv c)))) ∧ w = w' := by
  have hb := bits_xor x c
  generalize bits .xor .u32 x c = y at hb
  go_enter Tryd.func58, Tryd.ntmps58
  go_wp2
  go_loop [0, 5] (fun xv i => ∃ k : Nat, k ≤ 8 ∧ i = .int .i64 k ∧ xv = .int .u32 (un (it k (bv x ^^^ bv c)))) (fun _ i => 8 - (intOf i).toNat)
  case atStart => exact ⟨0, Nat.zero_le _, rfl, by rw [bits_xor]; rfl⟩
  case round =>
    clear hb
    obtain ⟨k, hk, rfl, rfl⟩ := hrel
    generalize hX : bv x ^^^ bv c = X0
    have HX := Lib.hid hX
    clear hX
    by_cases hlt : k < 8
    · have hs := it_succ k X0
      obtain ⟨X, hX⟩ : ∃ X, it k X0 = X := ⟨_, rfl⟩
      rw [hX] at hs ⊢
      have Hs := Lib.hid hs
      clear hs hX
      have hr := un_range X
      by_cases ho : X.getLsbD 0 = true
      · have h1 := odd_yes X ho
        have h2 := Lib.hid (step_yes X ho)
        clear ho
        go_wp2
        go_round
        case rel => exact ⟨k + 1, by omega, by go_num, by rw [Hs.out, ← h2.out]⟩
        case measure => simp [intOf]; omega
      · have ho' : X.getLsbD 0 = false := by simpa using ho
        have h1 := odd_no X ho'
        have h2 := Lib.hid (step_no X ho')
        clear ho ho'
        go_wp2
        go_round
        case rel => exact ⟨k + 1, by omega, by go_num, by rw [Hs.out, ← h2.out]⟩
        case measure => simp [intOf]; omega
    · go_wp2
      go_ret
      exact ⟨by rw [show k = 8 by omega, ← HX.out]; rfl, rfl⟩

theorem xor_ones' (x : BitVec 32) : bits .xor .u32 (un x) 4294967295 = un (~~~ x) := by
  rw [bits_xor, bv_un, show bv 4294967295 = ~~~ 0#32 by decide, ← not_eq]

set_option maxHeartbeats 1000000 in
theorem rof_any (v : Value) (xs : List Int) (w : World) (hv : RBy w v xs) :
    Calls Tryd.prog 26 #[v] w fun e w' => e = .returned (.int .u32 (sum xs)) ∧ w = w' := by
  obtain ⟨A', c', rfl, hc', hn', hb', hA', hcell'⟩ := hv
  go_enter Tryd.func26, Tryd.ntmps26
  go_wp2
  go_loop [3, 4] (fun x i => ∃ j : Nat, j ≤ xs.length ∧ i = .int .i64 j ∧ x = .int .u32 (un (runs ones (xs.take j)))) (fun _ i => xs.length - (intOf i).toNat)
  case atStart => exact ⟨0, Nat.zero_le _, rfl, rfl⟩
  case round =>
    obtain ⟨j, hj, rfl, rfl⟩ := hrel
    by_cases hlj : j < xs.length
    · obtain ⟨ad', rfl, hcs'⟩ := hcell' (by omega)
      have hx := hcs' j hlj
      have hxr : 0 ≤ xs[j]?.getD 0 ∧ xs[j]?.getD 0 < 256 := by
        rw [List.getElem?_eq_getElem hlj]; exact hb' _ (List.getElem_mem hlj)
      have hn1 := runs_take_succ ones xs j hlj
      generalize xs[j]?.getD 0 = y at hx hxr hn1
      have Hn1 := Lib.hid hn1
      clear hn1 hcell' hcs' hb'
      go_wp2_with (go_at_call 58; refine (rpush_any _ _ _ (un_range _) hxr).mono ?_; rintro e w' ⟨rfl, rfl⟩)
      go_round
      case rel => exact ⟨j + 1, by omega, by go_num, by rw [Hn1.out]⟩
      case measure => simp [intOf]; omega
    · go_wp2
      go_ret
      exact ⟨by rw [List.take_of_length_le (by omega)]; first | rfl | (rw [xor_ones']; rfl) | (rw [xor_ones]; rfl), rfl⟩

set_option maxHeartbeats 1000000 in
theorem rmof_any (p : Nat) (x : Int) (w : World) (hx : 0 ≤ x ∧ x < 4294967296) :
    Calls Tryd.prog 76 #[.agg (matFull p), .int .u32 x] w fun e w' => e = .returned (.int .u32 (un (it p (bv x)))) ∧ Below w.heap.size w w' := by
  go_enter Tryd.func76, Tryd.ntmps76
  have hm : MatAt (w.alloc (.cells (matFull p) 118)) ⟨w.heap.size, 0, none⟩ p := fun i hi => by
    rw [add_plain, cell_of_row _ _ i _ _ _ (heap_alloc_new w _), ← matUpto_full, matUpto_get _ _ _ hi, if_pos hi]
  go_wp2
  go_loop [5, 6] (fun x' i => ∃ k : Nat, k ≤ 32 ∧ i = .int .i64 k ∧ x' = .int .u32 (un (it p (low k (bv x))))) (fun _ i => 32 - (intOf i).toNat)
  case atStart => exact ⟨0, Nat.zero_le _, rfl, by rw [low_zero, it_zero]; rfl⟩
  case round =>
    obtain ⟨k, hk, rfl, rfl⟩ := hrel
    by_cases hlt : k < 32
    · have hc := hm k hlt
      rw [add_plain] at hc
      go_wp2
      · go_round
        case rel => exact ⟨k + 1, by omega, by go_num, by rw [of_yes p k hlt (bv x) (bit_yes x hx k ‹_›)]⟩
        case measure => simp [intOf]; omega
      · go_round
        case rel => exact ⟨k + 1, by omega, by go_num, by rw [of_no p k hlt (bv x) (bit_no x hx k ‹_›)]⟩
        case measure => simp [intOf]; omega
    · obtain rfl : k = 32 := by omega
      rw [low_all]
      go_wp2
      go_ret
      exact ⟨rfl, (Below.refl _ _).alloc (Nat.le_refl _) _⟩

theorem rmof_any' (M : Array Value) (p : Nat) (hM : Hid (M = matFull p)) (x : Int) (w : World) (hx : 0 ≤ x ∧ x < 4294967296) :
    Calls Tryd.prog 76 #[.agg M, .int .u32 x] w fun e w' => e = .returned (.int .u32 (un (it p (bv x)))) ∧ Below w.heap.size w w' := by
  rw [hM.out]; exact rmof_any p x w hx
theorem mat_get {M : Array Value} {p : Nat} (hM : Hid (M = matFull p)) (k : Nat) (hk : k < 32) : M[k]? = some (.int .u32 (un (it p (1#32 <<< k)))) := by
  rw [hM.out, ← matUpto_full, matUpto_get _ _ _ hk, if_pos hk]
set_option maxRecDepth 100000 in
set_option maxHeartbeats 4000000 in
theorem rtimes_any (p : Nat) (w : World) :
    Calls Tryd.prog 77 #[.agg (matFull p), .agg (matFull p)] w fun e w' => e = .returned (.agg (matFull (p + p))) ∧ Below w.heap.size w w' := by
  have hsize : (matFull p).size = 32 := by simp [matFull]
  obtain ⟨q, hq⟩ : ∃ q, p + p = q := ⟨_, rfl⟩
  rw [hq]
  generalize hM' : matFull p = M at hsize
  have hM : Hid (M = matFull p) := hM'.symm
  clear hM'
  have hQ := Lib.hid hq
  clear hq
  have hl : 32 = M.toList.length := by simp [hsize]
  have hi118 : (Tryd.prog.info? 118).map (·.size) = some M.toList.length := by rw [← hl]; kernel_rfl
  have HI := Lib.hid hi118
  clear hi118 hl
  have Hsize := Lib.hid hsize
  clear hsize
  go_enter Tryd.func77, Tryd.ntmps77
  go_wp2
  go_loopw [6] (fun i wr => ∃ k : Nat, k ≤ 32 ∧ i = .int .i64 k ∧ w.heap.size + 4 ≤ wr.heap.size ∧ wr.heap[w.heap.size]? = some (.cells M 118 (0, 0)) ∧ wr.heap[w.heap.size + 1]? = some (.cells M 118 (0, 0)) ∧
      (∃ old : Array Value, old.size = 32 ∧ wr.heap[w.heap.size + 1 + 1]? = some (.cells old 118 (0, 0))) ∧
      wr.heap[w.heap.size + 1 + 1 + 1]? = some (.cells (matUpto q k) 118 (0, 0)) ∧ Below w.heap.size w wr) (fun i _ => 32 - (intOf i).toNat)
  case atStart =>
    refine ⟨0, Nat.zero_le _, rfl, by simp, ?_, ?_, ⟨(List.replicate 32 (Value.int .u32 0)).toArray, by simp, ?_⟩, ?_, ((((Below.refl _ _).alloc (Nat.le_refl _) _).alloc (by simp) _).alloc (by simp; omega) _).alloc (by simp; omega) _⟩
    · simp only [heap_at, World.size_alloc]; rw [if_neg (by omega), if_neg (by omega), if_neg (by omega), if_pos trivial]
    · simp only [heap_at, World.size_alloc]; rw [if_neg (by omega), if_neg (by omega), if_pos trivial]
    · simp only [heap_at, World.size_alloc]; rw [if_neg (by omega), if_pos trivial]; rfl
    · simp only [heap_at, World.size_alloc]; rw [if_pos trivial, matUpto_zero]; rfl
  case round =>
    obtain ⟨k, hk, rfl, hsz, hr0, hr1, hold, hrow, hb⟩ := hrel
    by_cases hlt : k < 32
    · have hc : wr.cell? ⟨w.heap.size + 1 + 1 + 1, k, none⟩ = some (.int .u32 0) := by
        rw [cell_of_row wr _ k _ _ _ hrow, matUpto_get _ _ _ hlt, if_neg (by omega)]
      have hfz := frozen_of_row wr (w.heap.size + 1 + 1 + 1) k _ _ hrow
      have hc1 : wr.cell? ⟨w.heap.size + 1, k, none⟩ = some (.int .u32 (un (it p (1#32 <<< k)))) := by
        rw [cell_of_row wr _ k _ _ _ hr1, mat_get hM k hlt]
      go_wp2_with fail
      have hu118 : Tryd.prog.underlying 118 = some (.array 32 23) := Tryd.underlying118
      have hi118 : (Tryd.prog.info? 118).map (·.size) = some M.toList.length := HI.out
      have hra : wr.rangeAt w.heap.size 0 M.toList := fun j v hv => by
        rw [Nat.zero_add, cell_of_row wr _ j _ _ _ hr0]; simpa using hv
      go_region_held3 (fun w' => w'.rangeAt w.heap.size 0 M.toList ∧ w'.cell? ⟨w.heap.size + 1, k, none⟩ = some (.int .u32 (un (it p (1#32 <<< k)))))
        (first | exact ⟨hra, hc1⟩ | exact ⟨hra2, hc12⟩ | exact ⟨fun j v hv => (World.cell?_of_block (heap_setCell_other _ _ _ _ (by simp; omega))).trans (hra2 j v hv), (World.cell?_of_block (heap_setCell_other _ _ _ _ (by simp))).trans hc12⟩)
        (first | (go_at_call 76; refine (rmof_any' _ p hM _ _ (un_range _)).mono ?_; rintro e w' ⟨rfl, hb2⟩; have hbq : Below wr.heap.size wr w' := (Below.refl wr.heap.size wr).drew.trans hb2; have hra2 : w'.rangeAt w.heap.size 0 M.toList := (fun j v hv => keep_cell hbq (Nat.le_refl _) (hra j v hv)); have hc12 := keep_cell hbq (Nat.le_refl _) hc1; have hc2 := keep_cell hbq (Nat.le_refl _) hc; have hfz2 := (hbq.frozen (p := ⟨w.heap.size + 1 + 1 + 1, k, none⟩) (by show w.heap.size + 1 + 1 + 1 < wr.heap.size; omega)).trans hfz))
      clear hu118 hi118 hra hra2 hc12 hc2 hfz2 hc hfz hc1
      go_wp2
      go_roundw
      case rel =>
        have hbq : Below wr.heap.size wr w' := by assumption
        refine ⟨k + 1, by omega, by go_num, by have := hbq.size; simp [World.setCell]; omega, ?_, ?_, ?_, ?_, (hb.trans (hbq.mono (by omega))).setCell (by simp; omega) _⟩
        · rw [heap_setCell_other _ _ _ _ (by simp; omega), hbq.block _ (by omega)]; exact hr0
        · rw [heap_setCell_other _ _ _ _ (by simp), hbq.block _ (by omega)]; exact hr1
        · obtain ⟨old, ho, hh⟩ := hold
          exact ⟨old, ho, by rw [heap_setCell_other _ _ _ _ (by simp), hbq.block _ (by omega)]; exact hh⟩
        · rw [bv_un, ← it_add, hQ.out, heap_setCell_same _ _ _ _ _ _ ((hbq.block _ (by omega)).trans hrow), matUpto_set _ _ hlt]
      case measure => simp [intOf]; omega
    · replace hrow : wr.heap[w.heap.size + 1 + 1 + 1]? = some (.cells (matFull q) 118 (0, 0)) := by rw [← matUpto_full]; rwa [show k = 32 by omega] at hrow
      obtain ⟨old, ho, hh⟩ := hold
      have Ho := Lib.hid ho
      clear ho
      go_wp2_with (first | (with_reducible refine wpList_load_row rfl 118 (.tmp 5) rfl (w.heap.size + 1 + 1 + 1) rfl 118 (matFull q) (0, 0) _ hrow Tryd.underlying118 rfl (by kernel_rfl) ?_) | (with_reducible refine wpList_store_row rfl 118 (.tmp 4) (.tmp 18) rfl (w.heap.size + 1 + 1) (matFull q) rfl rfl 118 old hh (by kernel_rfl) (by rw [Ho.out]; simp [matFull]) (by simp [matFull, Value.oneCell']) ?_))
      refine bodyPost_ret_by (results_cell_row (p := 4) (ty := 118) (by kernel_rfl) _ _ (w.heap.size + 1 + 1) 118 (matFull q) (0, 0) _ rfl (setRow_heap _ _ _ _ _ _ hh) Tryd.underlying118 rfl (by kernel_rfl)) rfl ⟨rfl, Below.setRow' hb (by omega) _⟩

set_option maxHeartbeats 2000000 in
theorem rzeros_any (x n : Int) (w : World) (hx : 0 ≤ x ∧ x < 4294967296) (hn : 0 ≤ n ∧ n ≤ 9223372036854775807) :
    Calls Tryd.prog 59 #[.int .u32 x, .int .i64 n] w fun e w' => e = .returned (.int .u32 (un (it (8 * n.toNat) (bv x)))) ∧ Below w.heap.size w w' := by
  go_enter Tryd.func59, Tryd.ntmps59
  go_wp2
  go_loopw [6] (fun i wr => ∃ k : Nat, k ≤ 32 ∧ i = .int .i64 k ∧ w.heap.size + 1 ≤ wr.heap.size ∧ wr.heap[w.heap.size]? = some (.cells (matUpto 8 k) 118 (0, 0)) ∧ Below w.heap.size w wr) (fun i _ => 32 - (intOf i).toNat)
  case atStart =>
    refine ⟨0, Nat.zero_le _, rfl, by simp, ?_, (Below.refl _ _).alloc (Nat.le_refl _) _⟩
    rw [matUpto_zero]
    exact heap_alloc_new w _
  case round =>
    obtain ⟨k, hk, rfl, hsz, hrow, hb⟩ := hrel
    by_cases hlt : k < 32
    · have hc : wr.cell? ⟨w.heap.size, k, none⟩ = some (.int .u32 0) := by
        rw [cell_of_row wr _ k _ _ _ hrow, matUpto_get _ _ _ hlt, if_neg (by omega)]
      have hfz := frozen_of_row wr (w.heap.size) k _ _ hrow
      have hr : 0 ≤ (2 : Int) ^ k % 4294967296 ∧ (2 : Int) ^ k % 4294967296 < 4294967296 := by omega
      go_wp2_with (go_at_call 58; refine (rpush_any _ _ _ hr (by omega)).mono ?_; rintro e w' ⟨rfl, rfl⟩)
      go_roundw
      case rel =>
        refine ⟨k + 1, by omega, by go_num, by simpa [World.setCell] using hsz, ?_, hb.setCell (by simp) _⟩
        rw [bv_pow k hlt, heap_setCell_same _ _ _ _ _ _ hrow, matUpto_set _ _ hlt]
      case measure => simp [intOf]; omega
    · replace hrow : wr.heap[w.heap.size]? = some (.cells (matFull 8) 118 (0, 0)) := by rw [← matUpto_full]; rwa [show k = 32 by omega] at hrow
      obtain ⟨w1, rfl⟩ : ∃ w1 : World, w1 = wr := ⟨_, rfl⟩
      go_wp2
      go_loopw [0, 1] (fun xv nv wr => ∃ (p n' : Nat) (X : BitVec 32), nv = .int .i64 n' ∧ n' ≤ 9223372036854775807 ∧ xv = .int .u32 (un X) ∧ Aside0 (it (p * n') X = it (8 * n.toNat) (bv x)) ∧ w.heap.size + 1 ≤ wr.heap.size ∧ wr.heap[w.heap.size]? = some (.cells (matFull p) 118 (0, 0)) ∧ Below w.heap.size w wr) (fun _ nv _ => (intOf nv).toNat)
      case atStart => exact ⟨8, n.toNat, bv x, by rw [Int.toNat_of_nonneg hn.1], by omega, by rw [un_bv x hx], ⟨rfl⟩, hsz, hrow, hb⟩
      case round =>
        obtain ⟨p, n', X, rfl, hn', rfl, hpow, hsz', hrow', hb'⟩ := hrel
        by_cases h0 : 0 < n'
        · by_cases h1 : n' % 2 = 1
          · have h1b : ((n' : Int) % 2 == 1) = true := beq_iff_eq.2 (by omega)
            have hp := Lib.hid (pow_odd p n' X h1)
            clear h1
            go_wp2_with (first | (with_reducible refine wpList_load_row rfl 118 (.tmp 5) rfl w.heap.size rfl 118 (matFull p) (0, 0) _ (by assumption) Tryd.underlying118 rfl (by kernel_rfl) ?_) | (go_at_call 76; refine (rmof_any p _ _ (un_range _)).mono ?_; rintro e w2 ⟨rfl, hb1⟩; have hrow1 : w2.heap[w.heap.size]? = some (.cells (matFull p) 118 (0, 0)) := (hb1.block _ (by omega)).trans hrow') | (go_at_call 77; refine (rtimes_any p _).mono ?_; rintro e w' ⟨rfl, hb2⟩; have hrow2 : w'.heap[w.heap.size]? = some (.cells (matFull p) 118 (0, 0)) := (hb2.block _ (by have := hb1.size; omega)).trans hrow1) | (with_reducible refine wpList_store_row rfl 118 (.tmp 5) (.tmp 26) rfl w.heap.size (matFull (p + p)) rfl rfl 118 (matFull p) (by assumption) (by kernel_rfl) (by simp [matFull]) (by simp [matFull, Value.oneCell']) ?_))
            go_roundw
            case rel =>
              have hb1 : Below wr.heap.size wr w2 := by assumption
              have hb2 : Below w2.heap.size w2 w' := by assumption
              have s1 := hb1.size
              exact ⟨p + p, n' / 2, _, by go_num, by omega, rfl, ⟨by rw [bv_un, hp.out, hpow.out]⟩, by have := hb2.size; simp; omega, setRow_heap _ _ _ _ _ _ (by assumption), Below.setRow' ((hb'.trans (hb1.mono (by omega))).trans (hb2.mono (by omega))) (Nat.le_refl _) _⟩
            case measure => simp [intOf]; omega
          · have h1b : ((n' : Int) % 2 == 1) = false := beq_eq_false_iff_ne.2 (by omega)
            have hp := Lib.hid (pow_even p n' X h1)
            clear h1
            go_wp2_with (first | (with_reducible refine wpList_load_row rfl 118 (.tmp 5) rfl w.heap.size rfl 118 (matFull p) (0, 0) _ (by assumption) Tryd.underlying118 rfl (by kernel_rfl) ?_) | (go_at_call 77; refine (rtimes_any p _).mono ?_; rintro e w' ⟨rfl, hb2⟩; have hrow2 : w'.heap[w.heap.size]? = some (.cells (matFull p) 118 (0, 0)) := (hb2.block _ (by omega)).trans hrow') | (with_reducible refine wpList_store_row rfl 118 (.tmp 5) (.tmp 26) rfl w.heap.size (matFull (p + p)) rfl rfl 118 (matFull p) (by assumption) (by kernel_rfl) (by simp [matFull]) (by simp [matFull, Value.oneCell']) ?_))
            go_roundw
            case rel =>
              have hb2 : Below wr.heap.size wr w' := by assumption
              exact ⟨p + p, n' / 2, _, by go_num, by omega, rfl, ⟨by rw [hp.out, hpow.out]⟩, by have := hb2.size; simp; omega, setRow_heap _ _ _ _ _ _ (by assumption), Below.setRow' (hb'.trans (hb2.mono (by omega))) (Nat.le_refl _) _⟩
            case measure => simp [intOf]; omega
        · obtain rfl : n' = 0 := by omega
          go_wp2
          go_ret
          exact ⟨by rw [← hpow.out]; rfl, hb'⟩

theorem rjoin_any (a b n : Int) (w : World) (ha : 0 ≤ a ∧ a < 4294967296) (hb : 0 ≤ b ∧ b < 4294967296) (hn : -9223372036854775808 ≤ n ∧ n ≤ 9223372036854775807) :
    Calls Tryd.prog 28 #[.int .u32 a, .int .u32 b, .int .i64 n] w fun e w' => e = .returned (.tuple #[.int .u32 (joinI a b n), .int .i64 (joinE n)]) ∧ Below w.heap.size w w' := by
  by_cases h0 : n < 0
  · have hj : joinI a b n = 0 := by rw [joinI, if_pos h0]
    have hE : joinE n = 2 := by rw [joinE, if_pos h0]
    rw [hj, hE]
    clear hj hE
    go_enter Tryd.func28, Tryd.ntmps28
    go_wp2
    go_ret2
    exact ⟨rfl, Below.refl _ _⟩
  · have hj : joinI a b n = un (it (8 * n.toNat) (bv a) ^^^ bv b) := by rw [joinI, if_neg h0]
    have hE : joinE n = 0 := by rw [joinE, if_neg h0]
    rw [hj, hE]
    clear hj hE
    go_enter Tryd.func28, Tryd.ntmps28
    go_wp2_with (go_at_call 59; refine (rzeros_any _ _ _ ha (by omega)).mono ?_; rintro e w' ⟨rfl, hb2⟩)
    go_ret2
    exact ⟨by rw [bits_xor, bv_un]; rfl, by assumption⟩

theorem rturned_any (n at' x : Int) (w : World) (hx : 0 ≤ x ∧ x < 256) (hn : -9223372036854775808 ≤ n ∧ n ≤ 9223372036854775807) (ha : -9223372036854775808 ≤ at' ∧ at' ≤ 9223372036854775807) :
    Calls Tryd.prog 29 #[.int .i64 n, .int .i64 at', .int .u8 x] w fun e w' => e = .returned (.tuple #[.int .u32 (turnedI n at' x), .int .i64 (turnedE n at')]) ∧ Below w.heap.size w w' := by
  by_cases h0 : at' < 0 ∨ n ≤ at'
  · have hj : turnedI n at' x = 0 := by rw [turnedI, if_pos h0]
    have hE : turnedE n at' = 2 := by rw [turnedE, if_pos h0]
    rw [hj, hE]
    clear hj hE
    by_cases h1 : at' < 0
    · clear h0
      go_enter Tryd.func29, Tryd.ntmps29
      go_wp2
      go_ret2
      exact ⟨rfl, Below.refl _ _⟩
    · have h2 : n ≤ at' := by omega
      clear h0
      go_enter Tryd.func29, Tryd.ntmps29
      go_wp2
      go_ret2
      exact ⟨rfl, Below.refl _ _⟩
  · have hj : turnedI n at' x = un (it (8 * (n - 1 - at').toNat + 8) (bv x)) := by rw [turnedI, if_neg h0]
    have hE : turnedE n at' = 0 := by rw [turnedE, if_neg h0]
    have h1 : 0 ≤ at' := by omega
    have h2 : at' < n := by omega
    have hf : un (it (8 * (n - 1 - at').toNat) (bv (un (it 8 (bv 0 ^^^ bv x))))) = un (it (8 * (n - 1 - at').toNat + 8) (bv x)) := by
      rw [bv_un, ← it_add, show bv 0 = 0#32 by decide, BitVec.zero_xor, Nat.add_comm]
    have Hf := Lib.hid hf
    rw [hj, hE]
    clear hj hE h0 hf
    go_enter Tryd.func29, Tryd.ntmps29
    go_wp2_with (first | (go_at_call 59; refine (rzeros_any _ _ _ (un_range _) (by omega)).mono ?_; rintro e w' ⟨rfl, hb2⟩) | (go_at_call 58; refine (rpush_any _ _ _ (by omega) hx).mono ?_; rintro e w' ⟨rfl, rfl⟩))
    go_ret2
    exact ⟨by rw [Hf.out]; rfl, by assumption⟩
end Go.Proofs.YtblfmofhfbbmdaaDoor
