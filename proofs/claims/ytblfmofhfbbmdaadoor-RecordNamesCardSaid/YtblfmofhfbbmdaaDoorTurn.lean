/- What turned bytes do to a text's sum: one turned byte; four bytes side by side; a text with its sum behind it. Plain Lean, no program. -/
import Derived.Test.YtblfmofhfbbmdaaDoorMath
set_option linter.unusedVariables false
set_option linter.unusedSimpArgs false
namespace Go.Proofs.YtblfmofhfbbmdaaDoor.Crc
open Go

theorem bv_nat (n : Nat) : bv (n : Int) = BitVec.ofNat 32 n := by
  unfold bv
  apply BitVec.eq_of_toNat_eq
  rw [BitVec.toNat_ofInt, BitVec.toNat_ofNat]
  omega
def x8 (a d : Int) : Int := bits .xor .u8 a d
theorem x8_nat (a d : Int) (ha : 0 ≤ a ∧ a < 256) (hd : 0 ≤ d ∧ d < 256) : x8 a d = ((a.toNat ^^^ d.toNat : Nat) : Int) := by
  unfold x8 bits
  have e1 : (BitVec.ofInt 8 a).toNat = a.toNat := by rw [BitVec.toNat_ofInt]; omega
  have e2 : (BitVec.ofInt 8 d).toNat = d.toNat := by rw [BitVec.toNat_ofInt]; omega
  have hlt : a.toNat ^^^ d.toNat < 2 ^ 8 := Nat.xor_lt_two_pow (by omega) (by omega)
  show IntKind.u8.wrap ((BitVec.ofInt 8 a ^^^ BitVec.ofInt 8 d).toNat : Int) = _
  rw [BitVec.toNat_xor, e1, e2]
  simp [IntKind.wrap, IntKind.bits, IntKind.signed]
  omega
theorem x8_byte (a d : Int) (ha : 0 ≤ a ∧ a < 256) (hd : 0 ≤ d ∧ d < 256) : 0 ≤ x8 a d ∧ x8 a d < 256 := by
  rw [x8_nat a d ha hd]
  have hlt : a.toNat ^^^ d.toNat < 2 ^ 8 := Nat.xor_lt_two_pow (by omega) (by omega)
  omega
theorem bv_x8 (a d : Int) (ha : 0 ≤ a ∧ a < 256) (hd : 0 ≤ d ∧ d < 256) : bv (x8 a d) = bv a ^^^ bv d := by
  rw [x8_nat a d ha hd, bv_nat]
  apply BitVec.eq_of_toNat_eq
  have hlt : a.toNat ^^^ d.toNat < 2 ^ 8 := Nat.xor_lt_two_pow (by omega) (by omega)
  have e1 : (bv a).toNat = a.toNat := by unfold bv; rw [BitVec.toNat_ofInt]; omega
  have e2 : (bv d).toNat = d.toNat := by unfold bv; rw [BitVec.toNat_ofInt]; omega
  rw [BitVec.toNat_xor, e1, e2, BitVec.toNat_ofNat]
  omega
theorem x8_zero (a : Int) (ha : 0 ≤ a ∧ a < 256) : x8 a 0 = a := by
  rw [x8_nat a 0 ha (by omega)]
  simp
  omega

/-- One byte turned. -/
theorem runs_turn (s : BitVec 32) (xs : List Int) (p : Nat) (d : Int) (hp : p < xs.length) (hx : ∀ x ∈ xs, 0 ≤ x ∧ x < 256) (hd : 0 ≤ d ∧ d < 256) :
    runs s (xs.set p (x8 (xs[p]?.getD 0) d)) = runs s xs ^^^ it (8 * (xs.length - p)) (bv d) := by
  have hsplit : xs = xs.take p ++ (xs[p]?.getD 0) :: xs.drop (p + 1) := by
    conv => lhs; rw [← List.take_append_drop p xs]
    rw [List.drop_eq_getElem_cons hp, List.getElem?_eq_getElem hp]; rfl
  have hc : 0 ≤ xs[p]?.getD 0 ∧ xs[p]?.getD 0 < 256 := by
    rw [List.getElem?_eq_getElem hp]; exact hx _ (List.getElem_mem hp)
  have hset : xs.set p (x8 (xs[p]?.getD 0) d) = xs.take p ++ (x8 (xs[p]?.getD 0) d) :: xs.drop (p + 1) := by
    rw [List.set_eq_take_append_cons_drop, if_pos hp]
  rw [hset]
  conv => rhs; rw [hsplit]
  rw [runs_append, runs_append]
  simp only [runs]
  show runs (it 8 (runs s (List.take p xs) ^^^ bv (x8 (xs[p]?.getD 0) d))) (List.drop (p + 1) xs) = _
  rw [bv_x8 _ _ hc hd, ← BitVec.xor_assoc, it_xor, runs_xor, ← it_add, List.length_drop]
  congr 2
  simp only [List.length_append, List.length_cons, List.length_take, List.length_drop]
  omega
theorem not_xor (a b : BitVec 32) : ~~~ (a ^^^ b) = ~~~ a ^^^ b := by
  rw [not_eq, not_eq a]
  ac_rfl
theorem sumB_turn (xs : List Int) (p : Nat) (d : Int) (hp : p < xs.length) (hx : ∀ x ∈ xs, 0 ≤ x ∧ x < 256) (hd : 0 ≤ d ∧ d < 256) :
    sumB (xs.set p (x8 (xs[p]?.getD 0) d)) = sumB xs ^^^ it (8 * (xs.length - p)) (bv d) := by
  unfold sumB
  rw [runs_turn _ _ _ _ hp hx hd, not_xor]

/-- What shifts down falls out. -/
theorem it_shl (n : Nat) : ∀ (z : BitVec 32), (∀ j, 32 - n ≤ j → z.getLsbD j = false) → n ≤ 32 → it n (z <<< n) = z := by
  induction n with
  | zero => intro z _ _; simp [it]
  | succ n ih =>
    intro z hz hn
    have e : z <<< (n + 1) = (z <<< n) <<< 1 := by rw [← BitVec.shiftLeft_add]
    rw [e]
    show it n (step _) = z
    rw [step_double, ih z (fun j hj => hz j (by omega)) (by omega)]
    rw [BitVec.getLsbD_shiftLeft]
    by_cases h : 31 < n
    · simp [h]
    · rw [hz (31 - n) (by omega)]; simp
/-- The four bytes of a number of 32 bits, the lowest first. -/
def byteOf (t : Int) (i : Nat) : Int := t / 2 ^ (8 * i) % 256
theorem byteOf_byte (t : Int) (i : Nat) : 0 ≤ byteOf t i ∧ byteOf t i < 256 := by unfold byteOf; omega
theorem byteOf_bit (t : Int) (ht : 0 ≤ t ∧ t < 4294967296) (i : Nat) (hi : i < 4) (j : Nat) (hj : j < 32) : (bv (byteOf t i)).getLsbD j = (decide (j < 8) && (bv t).getLsbD (8 * i + j)) := by
  have e1 : (bv (byteOf t i)).toNat = t.toNat / 2 ^ (8 * i) % 256 := by
    have hb := byteOf_byte t i
    have e : byteOf t i = ((t.toNat / 2 ^ (8 * i) % 256 : Nat) : Int) := by
      unfold byteOf
      conv => lhs; rw [← Int.toNat_of_nonneg ht.1]
      rw [Int.natCast_emod, Int.natCast_ediv, Int.natCast_pow]
      rfl
    rw [e, bv_nat, BitVec.toNat_ofNat]
    omega
  have e2 : (bv t).toNat = t.toNat := by unfold bv; rw [BitVec.toNat_ofInt]; omega
  unfold BitVec.getLsbD
  rw [e1, e2, show (256 : Nat) = 2 ^ 8 by decide, Nat.testBit_mod_two_pow, Nat.testBit_div_two_pow, Nat.add_comm]
theorem bytes_join (t : Int) (ht : 0 ≤ t ∧ t < 4294967296) :
    bv (byteOf t 0) ^^^ bv (byteOf t 1) <<< 8 ^^^ bv (byteOf t 2) <<< 16 ^^^ bv (byteOf t 3) <<< 24 = bv t := by
  apply BitVec.eq_of_getLsbD_eq
  intro j hj
  simp only [BitVec.getLsbD_xor, BitVec.getLsbD_shiftLeft]
  rw [byteOf_bit t ht 0 (by omega) j hj, byteOf_bit t ht 1 (by omega) (j - 8) (by omega), byteOf_bit t ht 2 (by omega) (j - 16) (by omega), byteOf_bit t ht 3 (by omega) (j - 24) (by omega)]
  rcases (by omega : j < 8 ∨ (8 ≤ j ∧ j < 16) ∨ (16 ≤ j ∧ j < 24) ∨ 24 ≤ j) with h | h | h | h
  · simp [h, show j < 16 by omega, show j < 24 by omega]
  · have e : 8 + (j - 8) = j := by omega
    simp [e, hj, show ¬ j < 8 by omega, show j - 8 < 8 by omega, show j < 16 by omega, show j < 24 by omega]
  · have e : 16 + (j - 16) = j := by omega
    simp [e, hj, show ¬ j < 8 by omega, show ¬ j < 16 by omega, show ¬ j - 8 < 8 by omega, show j - 16 < 8 by omega, show j < 24 by omega]
  · have e : 24 + (j - 24) = j := by omega
    simp [e, hj, show ¬ j < 8 by omega, show ¬ j < 16 by omega, show ¬ j < 24 by omega, show ¬ j - 8 < 8 by omega, show ¬ j - 16 < 8 by omega, show j - 24 < 8 by omega]
theorem byteOf_high (t : Int) (ht : 0 ≤ t ∧ t < 4294967296) (i : Nat) (hi : i < 4) (n : Nat) (hn : n ≤ 24) : ∀ j, 32 - n ≤ j → (bv (byteOf t i)).getLsbD j = false := fun j hj => by
  by_cases h : j < 32
  · rw [byteOf_bit t ht i hi j h]; simp; omega
  · exact BitVec.getLsbD_of_ge _ _ (by omega)
/-- Four pushes by a number's bytes. -/
theorem four_bytes (t : Int) (ht : 0 ≤ t ∧ t < 4294967296) :
    it 32 (bv (byteOf t 0)) ^^^ it 24 (bv (byteOf t 1)) ^^^ it 16 (bv (byteOf t 2)) ^^^ it 8 (bv (byteOf t 3)) = it 32 (bv t) := by
  have h1 : it 24 (bv (byteOf t 1)) = it 32 (bv (byteOf t 1) <<< 8) := by
    rw [show ∀ z, it 32 z = it 24 (it 8 z) from fun z => it_add 8 24 z, it_shl 8 _ (byteOf_high t ht 1 (by omega) 8 (by omega)) (by omega)]
  have h2 : it 16 (bv (byteOf t 2)) = it 32 (bv (byteOf t 2) <<< 16) := by
    rw [show ∀ z, it 32 z = it 16 (it 16 z) from fun z => it_add 16 16 z, it_shl 16 _ (byteOf_high t ht 2 (by omega) 16 (by omega)) (by omega)]
  have h3 : it 8 (bv (byteOf t 3)) = it 32 (bv (byteOf t 3) <<< 24) := by
    rw [show ∀ z, it 32 z = it 8 (it 24 z) from fun z => it_add 24 8 z, it_shl 24 _ (byteOf_high t ht 3 (by omega) 24 (by omega)) (by omega)]
  rw [h1, h2, h3, ← it_xor, ← it_xor, ← it_xor, bytes_join t ht]

/-- The four bytes of a sum. -/
def le4 (t : Int) : List Int := [byteOf t 0, byteOf t 1, byteOf t 2, byteOf t 3]
theorem le4_byte (t : Int) : ∀ x ∈ le4 t, 0 ≤ x ∧ x < 256 := by
  intro x hx
  simp only [le4, List.mem_cons, List.not_mem_nil, or_false] at hx
  rcases hx with rfl | rfl | rfl | rfl <;> exact byteOf_byte _ _
theorem runs_le4 (s : BitVec 32) (t : Int) (ht : 0 ≤ t ∧ t < 4294967296) : runs s (le4 t) = it 32 (s ^^^ bv t) := by
  show it 8 (it 8 (it 8 (it 8 (s ^^^ bv (byteOf t 0)) ^^^ bv (byteOf t 1)) ^^^ bv (byteOf t 2)) ^^^ bv (byteOf t 3)) = _
  simp only [it_xor]
  simp only [← it_add, Nat.reduceAdd]
  rw [← four_bytes t ht]
  ac_rfl
/-- A text with its sum behind it has always the same sum. -/
def resid : Int := 558161692
theorem resid_at : ~~~ (it 32 ones) = BitVec.ofNat 32 558161692 := by decide +kernel
theorem sum_resid (t : List Int) : sum (t ++ le4 (sum t)) = resid := by
  unfold sum
  have : sumB (t ++ le4 ((sumB t).toNat : Int)) = BitVec.ofNat 32 558161692 := by
    unfold sumB
    rw [runs_append]
    have hr := un_range (~~~ runs ones t)
    unfold un at hr
    rw [runs_le4 _ _ hr]
    have hbv : bv ((~~~ runs ones t).toNat : Int) = ~~~ runs ones t := bv_un _
    rw [hbv, show runs ones t ^^^ ~~~ runs ones t = ones by
      rw [not_eq (runs ones t)]
      rw [← BitVec.xor_assoc, BitVec.xor_self, BitVec.zero_xor]; rfl]
    exact resid_at
  rw [this]; rfl

/-- Four bytes side by side, turned one by one. -/
def turnN (t : Int) (k : Nat) : Nat → List Int → List Int
  | 0, xs => xs
  | i + 1, xs => (turnN t k i xs).set (k + i) (x8 ((turnN t k i xs)[k + i]?.getD 0) (byteOf t i))
theorem turnN_length (t : Int) (k : Nat) (xs : List Int) : ∀ i, (turnN t k i xs).length = xs.length := by
  intro i
  induction i with
  | zero => rfl
  | succ i ih => simp [turnN, ih]
theorem turnN_byte (t : Int) (k : Nat) (xs : List Int) (hx : ∀ x ∈ xs, 0 ≤ x ∧ x < 256) : ∀ i, ∀ x ∈ turnN t k i xs, 0 ≤ x ∧ x < 256 := by
  intro i
  induction i with
  | zero => exact hx
  | succ i ih =>
    intro x hxm
    simp only [turnN] at hxm
    rcases List.mem_or_eq_of_mem_set hxm with h | h
    · exact ih x h
    · subst h
      refine x8_byte _ _ ?_ (byteOf_byte _ _)
      cases hc : (turnN t k i xs)[k + i]? with
      | none => simp
      | some c => exact ih c (List.mem_of_getElem? hc)
theorem sumB_turn4 (xs : List Int) (k : Nat) (t : Int) (hk : k + 4 ≤ xs.length) (hx : ∀ x ∈ xs, 0 ≤ x ∧ x < 256) (ht : 0 ≤ t ∧ t < 4294967296) :
    sumB (turnN t k 4 xs) = sumB xs ^^^ it (8 * (xs.length - (k + 4))) (it 32 (bv t)) := by
  have hl := turnN_length t k xs
  have hb := turnN_byte t k xs hx
  have one : ∀ i, i < 4 → sumB (turnN t k (i + 1) xs) = sumB (turnN t k i xs) ^^^ it (8 * (xs.length - (k + i))) (bv (byteOf t i)) := fun i hi => by
    have := sumB_turn (turnN t k i xs) (k + i) (byteOf t i) (by rw [hl]; omega) (hb i) (byteOf_byte _ _)
    rw [hl] at this
    exact this
  rw [one 3 (by omega), one 2 (by omega), one 1 (by omega), one 0 (by omega)]
  show sumB xs ^^^ _ ^^^ _ ^^^ _ ^^^ _ = _
  rw [← four_bytes t ht]
  simp only [it_xor, ← it_add]
  rw [show 32 + 8 * (xs.length - (k + 4)) = 8 * (xs.length - (k + 0)) by omega, show 24 + 8 * (xs.length - (k + 4)) = 8 * (xs.length - (k + 1)) by omega,
    show 16 + 8 * (xs.length - (k + 4)) = 8 * (xs.length - (k + 2)) by omega, show 8 + 8 * (xs.length - (k + 4)) = 8 * (xs.length - (k + 3)) by omega]
  ac_rfl
/-- They are told, if not all are turned by 0. -/
theorem sum_turn4 (xs : List Int) (k : Nat) (t : Int) (hk : k + 4 ≤ xs.length) (hx : ∀ x ∈ xs, 0 ≤ x ∧ x < 256) (ht : 0 ≤ t ∧ t < 4294967296) (h : sum (turnN t k 4 xs) = sum xs) : t = 0 := by
  have h2 : sumB (turnN t k 4 xs) = sumB xs := un_inj h
  rw [sumB_turn4 xs k t hk hx ht] at h2
  have h3 : it (8 * (xs.length - (k + 4))) (it 32 (bv t)) = 0#32 := by
    have : sumB xs ^^^ (sumB xs ^^^ it (8 * (xs.length - (k + 4))) (it 32 (bv t))) = sumB xs ^^^ sumB xs := by rw [h2]
    rwa [← BitVec.xor_assoc, BitVec.xor_self, BitVec.zero_xor] at this
  have h4 := it_ker _ _ (it_ker _ _ h3)
  rw [← un_bv t ht, h4]; rfl
theorem turnN_zero (k : Nat) (xs : List Int) (hx : ∀ x ∈ xs, 0 ≤ x ∧ x < 256) : ∀ i, k + i ≤ xs.length → turnN 0 k i xs = xs := by
  intro i
  induction i with
  | zero => intro _; rfl
  | succ i ih =>
    intro hk
    simp only [turnN]
    rw [ih (by omega), show byteOf 0 i = 0 by simp [byteOf], List.getElem?_eq_getElem (by omega : k + i < xs.length)]
    simp only [Option.getD_some]
    rw [x8_zero _ (hx _ (List.getElem_mem _))]
    exact List.set_getElem_self _
end Go.Proofs.YtblfmofhfbbmdaaDoor.Crc
