/- What the functions of package sum come to: the walks of push and Of. -/
import Derived.Test.YtblfmofhfbbmdaaDoorMem
set_option linter.unusedVariables false
set_option linter.unusedSimpArgs false
namespace Go.Proofs.YtblfmofhfbbmdaaDoor
open Go.RowKit Crc

set_option maxHeartbeats 400000 in
theorem push_any (x c : Int) (w : World) (hx : 0 ≤ x ∧ x < 4294967296) (hc : 0 ≤ c ∧ c < 256) (ht : Tab w) :
    Calls Tryd.prog 56 #[.int .u32 x, .int .u8 c] w fun e w' => e = .returned (.int .u32 (un (it 8 (bv x ^^^ bv c)))) ∧ w = w' := by
  have hf := push_form x c
  generalize un (it 8 (bv x ^^^ bv c)) = r at hf ⊢
  have Hf := Lib.hid hf
  clear hf
  unfold Tab at ht
  have h15 := and15
  have h15n : ∀ x, (bits .and .u32 x 15).toNat < 16 := fun x => by have := and15 x; omega
  go_enter Tryd.func56, Tryd.ntmps56
  go_wp2
  go_ret
  exact ⟨by rw [Hf.out]; rfl, rfl⟩

theorem runs_take_succ (s : BitVec 32) (xs : List Int) (j : Nat) (h : j < xs.length) : un (it 8 (bv (un (runs s (xs.take j))) ^^^ bv (xs[j]?.getD 0))) = un (runs s (xs.take (j + 1))) := by
  rw [bv_un, List.take_succ_eq_append_getElem h, runs_snoc, List.getElem?_eq_getElem h]
  rfl
theorem flatten_take_succ (xss : List (List Int)) (k : Nat) (h : k < xss.length) : (xss.take (k + 1)).flatten = (xss.take k).flatten ++ (xss[k]?.getD []) := by
  rw [List.take_succ_eq_append_getElem h, List.flatten_append, List.getElem?_eq_getElem h]
  simp
theorem xor_ones (x : BitVec 32) : bits .xor .u32 IntKind.u32.max (un x) = un (~~~ x) := by
  rw [bits_xor, bv_un, show bv IntKind.u32.max = ~~~ 0#32 by decide, BitVec.xor_comm, ← not_eq]

set_option maxHeartbeats 1000000 in
theorem of_any (v : Value) (xss : List (List Int)) (w : World) (hv : RBs w v xss) (ht : Tab w) :
    Calls Tryd.prog 21 #[v] w fun e w' => e = .returned (.int .u32 (sum xss.flatten)) ∧ w = w' := by
  obtain ⟨A, c, rfl, hc, hn, hcell⟩ := hv
  go_enter Tryd.func21, Tryd.ntmps21
  go_wp2
  go_loop [3, 10] (fun x i => ∃ k : Nat, k ≤ xss.length ∧ i = .int .i64 k ∧ x = .int .u32 (un (runs ones (xss.take k).flatten))) (fun _ i => xss.length - (intOf i).toNat)
  case atStart => exact ⟨0, Nat.zero_le _, rfl, rfl⟩
  case round =>
    obtain ⟨k, hk, rfl, rfl⟩ := hrel
    by_cases hlt : k < xss.length
    · obtain ⟨ad, rfl, hcs⟩ := hcell (by omega)
      obtain ⟨u, hu, hr⟩ := hcs k hlt
      clear hcell hcs
      have hfl := flatten_take_succ xss k hlt
      obtain ⟨xs, hxs⟩ : ∃ xs, xss[k]?.getD [] = xs := ⟨_, rfl⟩
      rw [hxs] at hr hfl
      obtain ⟨A', c', rfl, hc', hn', hb', hA', hcell'⟩ := hr
      generalize (xss.take k).flatten = pre at hfl ⊢
      have Hfl := Lib.hid hfl
      clear hxs hfl
      go_wp2
      go_loop [3, 16] (fun x i => ∃ j : Nat, j ≤ xs.length ∧ i = .int .i64 j ∧ x = .int .u32 (un (runs (runs ones pre) (xs.take j)))) (fun _ i => xs.length - (intOf i).toNat)
      case atStart => exact ⟨0, Nat.zero_le _, rfl, rfl⟩
      case round =>
        obtain ⟨j, hj, rfl, rfl⟩ := hrel
        by_cases hlj : j < xs.length
        · obtain ⟨ad', rfl, hcs'⟩ := hcell' (by omega)
          have hx := hcs' j hlj
          have hxr : 0 ≤ xs[j]?.getD 0 ∧ xs[j]?.getD 0 < 256 := by
            rw [List.getElem?_eq_getElem hlj]; exact hb' _ (List.getElem_mem hlj)
          have hn1 := runs_take_succ (runs ones pre) xs j hlj
          generalize xs[j]?.getD 0 = y at hx hxr hn1
          have Hn1 := Lib.hid hn1
          clear hn1 hcell' hcs' hb' Hfl
          go_wp2_with (go_at_call 56; refine (push_any _ _ _ (un_range _) hxr ht).mono ?_; rintro e w' ⟨rfl, rfl⟩)
          go_round
          case rel => exact ⟨j + 1, by omega, by go_num, by rw [Hn1.out]⟩
          case measure => simp [intOf]; omega
        · go_wp2
          go_round
          case rel => exact ⟨k + 1, by omega, by go_num, by rw [Hfl.out, runs_append, List.take_of_length_le (by omega)]⟩
          case measure => simp [intOf]; omega
    · go_wp2
      go_ret
      exact ⟨by rw [List.take_of_length_le (by omega), xor_ones]; rfl, rfl⟩
/-- The same, the world a name of its own. -/
theorem of_b (v : Value) (xss : List (List Int)) (w : World) (hv : RBs w v xss) (ht : Tab w) :
    Calls Tryd.prog 21 #[v] w fun e w' => e = .returned (.int .u32 (sum xss.flatten)) ∧ Below w.heap.size w w' :=
  (of_any v xss w hv ht).mono fun _ _ h => ⟨h.1, h.2 ▸ Below.refl _ _⟩

/-- A block of 32 numbers: what p steps make of each bit. -/
def MatAt (w : World) (ad : Addr) (p : Nat) : Prop := ∀ i : Nat, i < 32 → w.cell? (ad.add i) = some (.int .u32 (un (it p (1#32 <<< i))))

set_option maxHeartbeats 1000000 in
theorem mof_any (ad : Addr) (p : Nat) (x : Int) (w : World) (hm : MatAt w ad p) (hx : 0 ≤ x ∧ x < 4294967296) :
    Calls Tryd.prog 74 #[.pointer (some ad), .int .u32 x] w fun e w' => e = .returned (.int .u32 (un (it p (bv x)))) ∧ w = w' := by
  go_enter Tryd.func74, Tryd.ntmps74
  go_wp2
  go_loop [5, 7] (fun x' i => ∃ k : Nat, k ≤ 32 ∧ i = .int .i64 k ∧ x' = .int .u32 (un (it p (low k (bv x))))) (fun _ i => 32 - (intOf i).toNat)
  case atStart => exact ⟨0, Nat.zero_le _, rfl, by rw [low_zero, it_zero]; rfl⟩
  case round =>
    obtain ⟨k, hk, rfl, rfl⟩ := hrel
    by_cases hlt : k < 32
    · have hc := hm k hlt
      go_wp2
      · go_round
        case rel => exact ⟨k + 1, by omega, by go_num, by rw [of_yes p k hlt (bv x) (bit_yes x hx k ‹_›)]⟩
        case measure => simp [intOf]; omega
      · go_round
        case rel => exact ⟨k + 1, by omega, by go_num, by rw [of_no p k hlt (bv x) (bit_no x hx k ‹_›)]⟩
        case measure => simp [intOf]; omega
    · obtain rfl : k = 32 := by omega
      rw [low_all]
      go_wp2
      go_ret
      exact ⟨rfl, rfl⟩


/-- The first k of the 32 numbers laid. -/
def matUpto (q k : Nat) : Array Value := ((List.range 32).map fun i => Value.int .u32 (if i < k then un (it q (1#32 <<< i)) else 0)).toArray
def matFull (q : Nat) : Array Value := ((List.range 32).map fun i => Value.int .u32 (un (it q (1#32 <<< i)))).toArray
theorem matUpto_size (q k : Nat) : (matUpto q k).size = 32 := by simp [matUpto]
theorem matUpto_get (q k i : Nat) (h : i < 32) : (matUpto q k)[i]? = some (.int .u32 (if i < k then un (it q (1#32 <<< i)) else 0)) := by
  simp [matUpto, h]
theorem matUpto_set (q k : Nat) (h : k < 32) : (matUpto q k).setIfInBounds k (.int .u32 (un (it q (1#32 <<< k)))) = matUpto q (k + 1) := by
  apply Array.ext_getElem?
  intro i
  rw [Array.getElem?_setIfInBounds]
  by_cases h32 : i < 32
  · rw [matUpto_get _ _ _ h32, matUpto_get _ _ _ h32]
    by_cases e : k = i
    · subst e; simp [matUpto_size, h]
    · by_cases l : i < k
      · simp [e, l, show i < k + 1 by omega]
      · simp [e, l, show ¬ i < k + 1 by omega]
  · rw [Array.getElem?_eq_none (by rw [matUpto_size]; omega), Array.getElem?_eq_none (by rw [matUpto_size]; omega)]
    rw [if_neg (by omega)]
theorem matUpto_full (q : Nat) : matUpto q 32 = matFull q := by
  apply Array.ext_getElem?
  intro i
  by_cases h32 : i < 32
  · rw [matUpto_get _ _ _ h32]; simp [matFull, h32]
  · rw [Array.getElem?_eq_none (by rw [matUpto_size]; omega), Array.getElem?_eq_none (by simp [matFull]; omega)]
theorem matUpto_zero (q : Nat) : matUpto q 0 = (List.replicate 32 (Value.int .u32 0)).toArray := by
  apply Array.ext_getElem?
  intro i
  by_cases h32 : i < 32
  · rw [matUpto_get _ _ _ h32, List.getElem?_toArray, List.getElem?_replicate, if_pos h32, if_neg (by omega)]
  · rw [Array.getElem?_eq_none (by rw [matUpto_size]; omega), Array.getElem?_eq_none (by simp; omega)]
theorem MatAt_full {w : World} {g q : Nat} (h : w.heap[g]? = some (.cells (matFull q) 115 (0, 0))) : MatAt w ⟨g, 0, none⟩ q := fun i hi => by
  rw [add_plain, cell_of_row w g i _ _ _ h, ← matUpto_full, matUpto_get _ _ _ hi, if_pos hi]
theorem MatAt.below {w w' : World} {ad : Addr} {p : Nat} (h : MatAt w ad p) (hb : Below w.heap.size w w') : MatAt w' ad p := fun i hi => keep_cell hb (Nat.le_refl _) (h i hi)


set_option maxHeartbeats 1000000 in
theorem twice_any (ad : Addr) (p : Nat) (w : World) (hm : MatAt w ad p) :
    Calls Tryd.prog 75 #[.pointer (some ad)] w fun e w' => e = .returned (.agg (matFull (p + p))) ∧ Below w.heap.size w w' := by
  have hz := matUpto_zero (p + p)
  go_enter Tryd.func75, Tryd.ntmps75
  go_wp2
  go_loopw [5] (fun i wr => ∃ k : Nat, k ≤ 32 ∧ i = .int .i64 k ∧ w.heap.size + 2 ≤ wr.heap.size ∧ (∃ old : Array Value, old.size = 32 ∧ wr.heap[w.heap.size]? = some (.cells old 115 (0, 0))) ∧
      wr.heap[w.heap.size + 1]? = some (.cells (matUpto (p + p) k) 115 (0, 0)) ∧ Below w.heap.size w wr) (fun i _ => 32 - (intOf i).toNat)
  case atStart =>
    refine ⟨0, Nat.zero_le _, rfl, by simp, ⟨_, rfl, heap_alloc2_old w _ _⟩, ?_, ((Below.refl _ _).alloc (Nat.le_refl _) _).alloc (by simp) _⟩
    rw [matUpto_zero]
    exact heap_alloc2_new w _ _
  case round =>
    obtain ⟨k, hk, rfl, hsz, hold, hrow, hb⟩ := hrel
    clear hz
    by_cases hlt : k < 32
    · have hc : wr.cell? ⟨w.heap.size + 1, k, none⟩ = some (.int .u32 0) := by
        rw [cell_of_row wr _ k _ _ _ hrow, matUpto_get _ _ _ hlt, if_neg (by omega)]
      have hfz := frozen_of_row wr (w.heap.size + 1) k _ _ hrow
      have hmk := (hm.below hb) k hlt
      go_wp2_with (go_at_call 74; refine (mof_any ad p _ _ (hm.below hb) (un_range _)).mono ?_; rintro e w' ⟨rfl, rfl⟩)
      go_roundw
      case rel =>
        refine ⟨k + 1, by omega, by go_num, by simpa [World.setCell] using hsz, ?_, ?_, hb.setCell (by simp) _⟩
        · obtain ⟨old, ho, hh⟩ := hold
          exact ⟨old, ho, by rw [heap_setCell_other _ _ _ _ (by simp)]; exact hh⟩
        · rw [bv_un, heap_setCell_same _ _ _ _ _ _ hrow, ← it_add, matUpto_set _ _ hlt]
      case measure => simp [intOf]; omega
    · obtain rfl : k = 32 := by omega
      rw [matUpto_full] at hrow
      obtain ⟨old, ho, hh⟩ := hold
      go_wp2_with (first | (with_reducible refine wpList_load_row rfl 115 (.tmp 3) rfl (w.heap.size + 1) rfl 115 (matFull (p + p)) (0, 0) _ hrow Tryd.underlying115 rfl (by kernel_rfl) ?_) | (with_reducible refine wpList_store_row rfl 115 (.tmp 2) (.tmp 18) rfl w.heap.size (matFull (p + p)) rfl rfl 115 old hh (by kernel_rfl) (by rw [ho]; simp [matFull]) (by simp [matFull, Value.oneCell']) ?_))
      refine bodyPost_ret_by (results_cell_row (p := 2) (ty := 115) (by kernel_rfl) _ _ w.heap.size 115 (matFull (p + p)) (0, 0) _ rfl (setRow_heap _ _ _ _ _ _ hh) Tryd.underlying115 rfl (by kernel_rfl)) rfl ⟨rfl, Below.setRow' hb (Nat.le_refl _) _⟩
theorem bv_pow (k : Nat) (hk : k < 32) : bv (2 ^ k % 4294967296) ^^^ bv 0 = 1#32 <<< k := by
  rw [shl_one k hk, Int.emod_eq_of_lt (un_range _).1 (un_range _).2, bv_un, show bv 0 = 0#32 by decide, BitVec.xor_zero]

set_option maxHeartbeats 1000000 in
theorem zeros_any (x n : Int) (w : World) (hx : 0 ≤ x ∧ x < 4294967296) (hn : 0 ≤ n ∧ n ≤ 9223372036854775807) (ht : Tab w) :
    Calls Tryd.prog 57 #[.int .u32 x, .int .i64 n] w fun e w' => e = .returned (.int .u32 (un (it (8 * n.toNat) (bv x)))) ∧ Below w.heap.size w w' := by
  go_enter Tryd.func57, Tryd.ntmps57
  go_wp2
  go_loopw [7] (fun i wr => ∃ k : Nat, k ≤ 32 ∧ i = .int .i64 k ∧ w.heap.size + 1 ≤ wr.heap.size ∧ wr.heap[w.heap.size]? = some (.cells (matUpto 8 k) 115 (0, 0)) ∧ Below w.heap.size w wr) (fun i _ => 32 - (intOf i).toNat)
  case atStart =>
    refine ⟨0, Nat.zero_le _, rfl, by simp, ?_, (Below.refl _ _).alloc (Nat.le_refl _) _⟩
    rw [matUpto_zero]
    exact heap_alloc_new w _
  case round =>
    obtain ⟨k, hk, rfl, hsz, hrow, hb⟩ := hrel
    by_cases hlt : k < 32
    · have hc : wr.cell? ⟨w.heap.size, k, none⟩ = some (.int .u32 0) := by
        rw [cell_of_row wr _ k _ _ _ hrow, matUpto_get _ _ _ hlt, if_neg (by omega)]
      have hfz := frozen_of_row wr (w.heap.size) k _ _ hrow
      have hr : 0 ≤ (2 : Int) ^ k % 4294967296 ∧ (2 : Int) ^ k % 4294967296 < 4294967296 := by omega
      go_wp2_with (go_at_call 56; refine (push_any _ _ _ hr (by omega) (ht.below hb)).mono ?_; rintro e w' ⟨rfl, rfl⟩)
      go_roundw
      case rel =>
        refine ⟨k + 1, by omega, by go_num, by simpa [World.setCell] using hsz, ?_, hb.setCell (by simp) _⟩
        rw [bv_pow k hlt, heap_setCell_same _ _ _ _ _ _ hrow, matUpto_set _ _ hlt]
      case measure => simp [intOf]; omega
    · replace hrow : wr.heap[w.heap.size]? = some (.cells (matFull 8) 115 (0, 0)) := by rw [← matUpto_full]; rwa [show k = 32 by omega] at hrow
      obtain ⟨w1, rfl⟩ : ∃ w1 : World, w1 = wr := ⟨_, rfl⟩
      go_wp2
      go_loopw [0, 1] (fun xv nv wr => ∃ (p n' : Nat) (X : BitVec 32), nv = .int .i64 n' ∧ n' ≤ 9223372036854775807 ∧ xv = .int .u32 (un X) ∧ Aside0 (it (p * n') X = it (8 * n.toNat) (bv x)) ∧ w.heap.size + 1 ≤ wr.heap.size ∧ wr.heap[w.heap.size]? = some (.cells (matFull p) 115 (0, 0)) ∧ Below w.heap.size w wr) (fun _ nv _ => (intOf nv).toNat)
      case atStart => exact ⟨8, n.toNat, bv x, by rw [Int.toNat_of_nonneg hn.1], by omega, by rw [un_bv x hx], ⟨rfl⟩, hsz, hrow, hb⟩
      case round =>
        obtain ⟨p, n', X, rfl, hn', rfl, hpow, hsz', hrow', hb'⟩ := hrel
        by_cases h0 : 0 < n'
        · by_cases h1 : n' % 2 = 1
          · have h1b := odd_i64 n' hn' h1
            have hp := Lib.hid (pow_odd p n' X h1)
            go_wp2_with (first | (go_at_call 74; refine (mof_any _ p _ _ (MatAt_full hrow') (un_range _)).mono ?_; rintro e w' ⟨rfl, rfl⟩) | (go_at_call 75; refine (twice_any _ p _ (MatAt_full hrow')).mono ?_; rintro e w' ⟨rfl, hb2⟩; have hrow2 : w'.heap[w.heap.size]? = some (.cells (matFull p) 115 (0, 0)) := (hb2.block _ (by omega)).trans hrow') | (with_reducible refine wpList_store_row rfl 115 (.tmp 5) (.tmp 25) rfl w.heap.size (matFull (p + p)) rfl rfl 115 (matFull p) (by assumption) (by kernel_rfl) (by simp [matFull]) (by simp [matFull, Value.oneCell']) ?_))
            go_roundw
            case rel =>
              have hb2 : Below wr.heap.size wr w' := by assumption
              exact ⟨p + p, n' / 2, _, by go_num, by omega, rfl, ⟨by rw [bv_un, hp.out, hpow.out]⟩, by have := hb2.size; simp; omega, setRow_heap _ _ _ _ _ _ (by assumption), Below.setRow' (hb'.trans (hb2.mono (by omega))) (Nat.le_refl _) _⟩
            case measure => simp [intOf]; omega
          · have h1b := even_i64 n' hn' h1
            have hp := Lib.hid (pow_even p n' X h1)
            go_wp2_with (first | (go_at_call 74; refine (mof_any _ p _ _ (MatAt_full hrow') (un_range _)).mono ?_; rintro e w' ⟨rfl, rfl⟩) | (go_at_call 75; refine (twice_any _ p _ (MatAt_full hrow')).mono ?_; rintro e w' ⟨rfl, hb2⟩; have hrow2 : w'.heap[w.heap.size]? = some (.cells (matFull p) 115 (0, 0)) := (hb2.block _ (by omega)).trans hrow') | (with_reducible refine wpList_store_row rfl 115 (.tmp 5) (.tmp 25) rfl w.heap.size (matFull (p + p)) rfl rfl 115 (matFull p) (by assumption) (by kernel_rfl) (by simp [matFull]) (by simp [matFull, Value.oneCell']) ?_))
            go_roundw
            case rel =>
              have hb2 : Below wr.heap.size wr w' := by assumption
              exact ⟨p + p, n' / 2, _, by go_num, by omega, rfl, ⟨by rw [hp.out, hpow.out]⟩, by have := hb2.size; simp; omega, setRow_heap _ _ _ _ _ _ (by assumption), Below.setRow' (hb'.trans (hb2.mono (by omega))) (Nat.le_refl _) _⟩
            case measure => simp [intOf]; omega
        · obtain rfl : n' = 0 := by omega
          go_wp2
          go_ret
          exact ⟨by rw [← hpow.out]; rfl, hb'⟩
def joinI (a b n : Int) : Int := if n < 0 then 0 else un (it (8 * n.toNat) (bv a) ^^^ bv b)
def joinE (n : Int) : Int := if n < 0 then 2 else 0
def turnedI (n at' x : Int) : Int := if at' < 0 ∨ n ≤ at' then 0 else un (it (8 * (n - 1 - at').toNat + 8) (bv x))
def turnedE (n at' : Int) : Int := if at' < 0 ∨ n ≤ at' then 2 else 0

theorem join_any (a b n : Int) (w : World) (ha : 0 ≤ a ∧ a < 4294967296) (hb : 0 ≤ b ∧ b < 4294967296) (hn : -9223372036854775808 ≤ n ∧ n ≤ 9223372036854775807) (ht : Tab w) :
    Calls Tryd.prog 22 #[.int .u32 a, .int .u32 b, .int .i64 n] w fun e w' => e = .returned (.tuple #[.int .u32 (joinI a b n), .int .i64 (joinE n)]) ∧ Below w.heap.size w w' := by
  by_cases h0 : n < 0
  · have hj : joinI a b n = 0 := by rw [joinI, if_pos h0]
    have hE : joinE n = 2 := by rw [joinE, if_pos h0]
    rw [hj, hE]
    clear hj hE
    go_enter Tryd.func22, Tryd.ntmps22
    go_wp2
    go_ret2
    exact ⟨rfl, Below.refl _ _⟩
  · have hj : joinI a b n = un (it (8 * n.toNat) (bv a) ^^^ bv b) := by rw [joinI, if_neg h0]
    have hE : joinE n = 0 := by rw [joinE, if_neg h0]
    rw [hj, hE]
    clear hj hE
    go_enter Tryd.func22, Tryd.ntmps22
    go_wp2_with (go_at_call 57; refine (zeros_any _ _ _ ha (by omega) ht).mono ?_; rintro e w' ⟨rfl, hb2⟩)
    go_ret2
    exact ⟨by rw [bits_xor, bv_un]; rfl, by assumption⟩

theorem turned_any (n at' x : Int) (w : World) (hx : 0 ≤ x ∧ x < 256) (hn : -9223372036854775808 ≤ n ∧ n ≤ 9223372036854775807) (ha : -9223372036854775808 ≤ at' ∧ at' ≤ 9223372036854775807) (ht : Tab w) :
    Calls Tryd.prog 23 #[.int .i64 n, .int .i64 at', .int .u8 x] w fun e w' => e = .returned (.tuple #[.int .u32 (turnedI n at' x), .int .i64 (turnedE n at')]) ∧ Below w.heap.size w w' := by
  by_cases h0 : at' < 0 ∨ n ≤ at'
  · have hj : turnedI n at' x = 0 := by rw [turnedI, if_pos h0]
    have hE : turnedE n at' = 2 := by rw [turnedE, if_pos h0]
    rw [hj, hE]
    clear hj hE
    by_cases h1 : at' < 0
    · clear h0
      go_enter Tryd.func23, Tryd.ntmps23
      go_wp2
      go_ret2
      exact ⟨rfl, Below.refl _ _⟩
    · have h2 : n ≤ at' := by omega
      clear h0
      go_enter Tryd.func23, Tryd.ntmps23
      go_wp2
      go_ret2
      exact ⟨rfl, Below.refl _ _⟩
  · have hj : turnedI n at' x = un (it (8 * (n - 1 - at').toNat + 8) (bv x)) := by rw [turnedI, if_neg h0]
    have hE : turnedE n at' = 0 := by rw [turnedE, if_neg h0]
    have h1 : 0 ≤ at' := by omega
    have h2 : at' < n := by omega
    have hf : un (it (8 * (n - 1 - at').toNat) (bv (un (it 8 (bv 0 ^^^ bv x))))) = un (it (8 * (n - 1 - at').toNat + 8) (bv x)) := by
      rw [bv_un, ← it_add, show bv 0 = 0#32 by decide, BitVec.zero_xor, Nat.add_comm]
    have Hf := Lib.hid hf
    rw [hj, hE]
    clear hj hE h0 hf
    go_enter Tryd.func23, Tryd.ntmps23
    go_wp2_with (first | (go_at_call 57; refine (zeros_any _ _ _ (un_range _) (by omega) ht).mono ?_; rintro e w' ⟨rfl, hb2⟩) | (go_at_call 56; refine (push_any _ _ _ (by omega) hx ht).mono ?_; rintro e w' ⟨rfl, rfl⟩))
    go_ret2
    exact ⟨by rw [Hf.out]; rfl, by assumption⟩
end Go.Proofs.YtblfmofhfbbmdaaDoor
