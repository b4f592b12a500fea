/- Numbers as bytes: there and back. -/
import Derived.Test.YtblfmofhfbbmdaaDoorPad
import Derived.Laws.BytesArg
set_option linter.unusedVariables false
set_option linter.unusedSimpArgs false
namespace Go.Proofs.YtblfmofhfbbmdaaDoor
open Go.RowKit

theorem le_cons (m : Nat) (n : Int) : le (m + 1) n = (n % 256) :: le m (n / 256) := by
  apply List.ext_getElem?
  intro i
  cases i with
  | zero => rw [le_get _ _ _ (by omega)]; simp
  | succ i =>
    rw [List.getElem?_cons_succ]
    by_cases h : i < m
    · rw [le_get _ _ _ (by omega), le_get _ _ _ h]
      congr 2
      rw [Int.pow_succ, Int.mul_comm, Int.ediv_ediv_of_nonneg (by decide)]
    · rw [List.getElem?_eq_none (by rw [le_length]; omega), List.getElem?_eq_none (by rw [le_length]; omega)]
theorem pow_le8 {m : Nat} (h : m ≤ 8) : (256 : Int) ^ m ≤ 18446744073709551616 := by
  have : m = 0 ∨ m = 1 ∨ m = 2 ∨ m = 3 ∨ m = 4 ∨ m = 5 ∨ m = 6 ∨ m = 7 ∨ m = 8 := by omega
  rcases this with rfl | rfl | rfl | rfl | rfl | rfl | rfl | rfl | rfl <;> decide
theorem pow_pos8 (m : Nat) : 0 < (256 : Int) ^ m := Int.pow_pos (by decide)
theorem numU_le (m : Nat) : ∀ (n : Int), m ≤ 8 → 0 ≤ n → n < 256 ^ m → numU (le m n) = n := by
  induction m with
  | zero => intro n _ h0 h1; simp at h1; obtain rfl : n = 0 := by omega
            rfl
  | succ m ih =>
    intro n hm h0 h1
    have hp := pow_le8 hm
    rw [Int.pow_succ] at h1
    have h2 : n / 256 < 256 ^ m := by omega
    rw [le_cons, numU, ih (n / 256) (by omega) (by omega) h2]
    have h3 : n < 18446744073709551616 := by rw [Int.pow_succ] at hp; omega
    omega
theorem numU_lt : ∀ (xs : List Int), IsB xs → xs.length ≤ 8 → numU xs < 256 ^ xs.length
  | [], _, _ => by simp [numU]
  | c :: t, h, hl => by
    have hc := h c (by simp)
    simp only [List.length_cons] at hl ⊢
    have ih := numU_lt t (fun x hx => h x (by simp [hx])) (by omega)
    have hr := numU_range t
    rw [numU, Int.pow_succ]
    have := pow_le8 (show t.length + 1 ≤ 8 from hl)
    rw [Int.pow_succ] at this
    omega
theorem le_numU : ∀ (xs : List Int), IsB xs → xs.length ≤ 8 → le xs.length (numU xs) = xs
  | [], _, _ => rfl
  | c :: t, h, hl => by
    have hc := h c (by simp)
    have hbt : IsB t := fun x hx => h x (by simp [hx])
    simp only [List.length_cons] at hl ⊢
    have ih := le_numU t hbt (by omega)
    have hlt := numU_lt t hbt (by omega)
    have hr := numU_range t
    have hp := pow_le8 (show t.length + 1 ≤ 8 from hl)
    rw [Int.pow_succ] at hp
    have hn : numU (c :: t) = 256 * numU t + c := by rw [numU]; omega
    rw [le_cons, hn, show (256 * numU t + c) % 256 = c by omega, show (256 * numU t + c) / 256 = numU t by omega, ih]
theorem str_inj {xs ys : List Int} (hx : IsB xs) (hy : IsB ys) (h : strOfNums xs = strOfNums ys) : xs = ys := by
  have h1 : (xs.map fun n => UInt8.ofNat n.toNat) = ys.map fun n => UInt8.ofNat n.toNat := by
    have := congrArg (fun s : ByteArray => s.data.toList) h
    simpa [strOfNums_data] using this
  have h2 : ∀ (zs : List Int), IsB zs → (zs.map fun n => UInt8.ofNat n.toNat).map (fun u => (u.toNat : Int)) = zs := fun zs hz => by
    rw [List.map_map]
    conv => rhs; rw [← List.map_id zs]
    refine List.map_congr_left fun x hxm => ?_
    have := hz x hxm
    simp only [Function.comp, id]
    rw [UInt8.toNat_ofNat']
    omega
  rw [← h2 xs hx, h1, h2 ys hy]
/-- Put of a number that fits. -/
theorem put_fit {n : Int} {m : Nat} (h1 : 1 ≤ m) (h2 : m ≤ 8) (hf : n / 256 ^ m = 0) : putE n (m : Int) = 0 ∧ putL n (m : Int) = le m n := by
  have hf' : fits n m = true := by simp [fits, hf]
  exact ⟨by rw [putE, if_pos (by omega), Int.toNat_natCast, if_pos hf'], by rw [putL, if_pos (by omega), Int.toNat_natCast, if_pos hf']⟩
theorem lt_of_fit {n : Int} {m : Nat} (h0 : 0 ≤ n) (hf : n / 256 ^ m = 0) : n < 256 ^ m := by
  have := Int.emod_add_mul_ediv n (256 ^ m)
  rw [hf] at this
  have h2 := Int.emod_lt_of_pos n (pow_pos8 m)
  omega
theorem fit_of_lt {n : Int} {m : Nat} (h0 : 0 ≤ n) (h : n < 256 ^ m) : n / 256 ^ m = 0 := Int.ediv_eq_zero_of_lt h0 h
theorem put_take {b : List Int} {m : Nat} (h1 : 1 ≤ m) (h2 : m ≤ 8) (hl : m ≤ b.length) (hb : IsB b) : putE (numU (b.take m)) (m : Int) = 0 ∧ putL (numU (b.take m)) (m : Int) = b.take m := by
  have hbt : IsB (b.take m) := fun x hx => hb x (List.mem_of_mem_take hx)
  have hlt : (b.take m).length = m := by rw [List.length_take]; omega
  have hn := numU_lt (b.take m) hbt (by omega)
  rw [hlt] at hn
  have hp := put_fit h1 h2 (fit_of_lt (numU_range _).1 hn)
  refine ⟨hp.1, hp.2.trans ?_⟩
  have := le_numU (b.take m) hbt (by omega)
  rwa [hlt] at this
/-- Unlike numbers have unlike forms. -/
theorem str_list (xs : List Int) : (strOfNums xs).toList = xs.map fun n => UInt8.ofNat n.toNat := by
  unfold strOfNums
  rw [ByteArray.toList_mk]
theorem str_le {n k : Int} {m : Nat} (h2 : m ≤ 8) (hn0 : 0 ≤ n) (hk0 : 0 ≤ k) (hn : n / 256 ^ m = 0) (hk : k / 256 ^ m = 0) : ((strOfNums (le m n)).toList == (strOfNums (le m k)).toList) = (n == k) := by
  by_cases h : n = k
  · subst h; simp
  · have : (strOfNums (le m n)).toList ≠ (strOfNums (le m k)).toList := fun e => h (by
      have e1 : strOfNums (le m n) = strOfNums (le m k) := by
        rw [str_list, str_list] at e
        unfold strOfNums
        rw [e]
      have e2 := str_inj (le_isB m n) (le_isB m k) e1
      rw [← numU_le m n h2 hn0 (lt_of_fit hn0 hn), e2, numU_le m k h2 hk0 (lt_of_fit hk0 hk)])
    rw [beq_eq_false_iff_ne.2 this, beq_eq_false_iff_ne.2 h]
theorem OB.bareform {w : World} {base : Nat} {v : Value} (h : OB w base v []) : ∃ A c, v = .slice A 0 c := by
  obtain ⟨A, c, e, _⟩ := h.reads.form; exact ⟨A, c, e⟩
end Go.Proofs.YtblfmofhfbbmdaaDoor
