/- CRC-32 as a linear map of 32 bits: one step of the register is a linear injective map; its powers, and what a text of bytes does to a register. Plain Lean, no program. -/
import Derived.WalkKit
set_option linter.unusedVariables false
set_option linter.unusedSimpArgs false
namespace Go.Proofs.YtblfmofhfbbmdaaDoor.Crc
open Go

def poly : BitVec 32 := 0xedb88320#32
/-- One bit of a push. -/
def step (x : BitVec 32) : BitVec 32 := (x >>> 1) ^^^ (if x.getLsbD 0 then poly else 0#32)
/-- Many bits. -/
def it : Nat → BitVec 32 → BitVec 32
  | 0, x => x
  | n + 1, x => it n (step x)

theorem it_add (m n : Nat) (x : BitVec 32) : it (m + n) x = it n (it m x) := by
  induction m generalizing x with
  | zero => simp [it]
  | succ m ih => rw [Nat.succ_add]; simp [it, ih]
theorem it_succ (n : Nat) (x : BitVec 32) : it (n + 1) x = step (it n x) := by
  rw [it_add]; rfl

theorem step_xor (a b : BitVec 32) : step (a ^^^ b) = step a ^^^ step b := by
  unfold step
  rw [BitVec.ushiftRight_xor_distrib, BitVec.getLsbD_xor]
  have hp : ∀ q : BitVec 32, poly ^^^ (poly ^^^ q) = q := fun q => by rw [← BitVec.xor_assoc, BitVec.xor_self, BitVec.zero_xor]
  cases a.getLsbD 0 <;> cases b.getLsbD 0 <;> simp
  · ac_rfl
  · ac_rfl
  · rw [show a >>> 1 ^^^ poly ^^^ (b >>> 1 ^^^ poly) = poly ^^^ (poly ^^^ (a >>> 1 ^^^ b >>> 1)) by ac_rfl, hp]
theorem step_zero : step 0#32 = 0#32 := by decide
theorem it_xor (n : Nat) (a b : BitVec 32) : it n (a ^^^ b) = it n a ^^^ it n b := by
  induction n generalizing a b with
  | zero => rfl
  | succ n ih => simp [it, step_xor, ih]
theorem it_zero (n : Nat) : it n 0#32 = 0#32 := by
  induction n with
  | zero => rfl
  | succ n ih => simp [it, step_zero, ih]

theorem step_ker (x : BitVec 32) (h : step x = 0#32) : x = 0#32 := by
  unfold step at h
  have hx : x >>> 1 = if x.getLsbD 0 then poly else 0#32 := by
    have h2 : (x >>> 1 ^^^ (if x.getLsbD 0 then poly else 0#32)) ^^^ (if x.getLsbD 0 then poly else 0#32) = 0#32 ^^^ (if x.getLsbD 0 then poly else 0#32) := by rw [h]
    rw [BitVec.xor_assoc, BitVec.xor_self] at h2
    simpa using h2
  have h31 : (x >>> 1).getLsbD 31 = false := by simp
  by_cases h0 : x.getLsbD 0 = true
  · rw [hx] at h31
    simp only [h0, if_true] at h31
    exact absurd h31 (by decide)
  · simp only [h0] at hx
    apply BitVec.eq_of_getLsbD_eq
    intro i hi
    simp only [BitVec.getLsbD_zero]
    cases i with
    | zero => simpa using h0
    | succ i =>
      have h3 : (x >>> 1).getLsbD i = false := by rw [hx]; simp
      simpa [Nat.add_comm] using h3
theorem it_ker (n : Nat) (x : BitVec 32) (h : it n x = 0#32) : x = 0#32 := by
  induction n generalizing x with
  | zero => exact h
  | succ n ih => exact step_ker x (ih _ h)
theorem xor_eq_zero {a b : BitVec 32} (h : a ^^^ b = 0#32) : a = b := by
  have : (a ^^^ b) ^^^ b = 0#32 ^^^ b := by rw [h]
  rw [BitVec.xor_assoc, BitVec.xor_self] at this
  simpa using this
theorem it_inj (n : Nat) {a b : BitVec 32} (h : it n a = it n b) : a = b := by
  apply xor_eq_zero
  apply it_ker n
  rw [it_xor, h, BitVec.xor_self]

/-- What shifts down falls out: n steps of a number that ends in n zero bits. -/
theorem step_double (y : BitVec 32) (h : y.getLsbD 31 = false) : step (y <<< 1) = y := by
  unfold step
  have h0 : (y <<< 1).getLsbD 0 = false := by simp
  rw [h0]
  simp only [Bool.false_eq_true, if_false, BitVec.xor_zero]
  apply BitVec.eq_of_getLsbD_eq
  intro i hi
  simp only [BitVec.getLsbD_ushiftRight, BitVec.getLsbD_shiftLeft]
  by_cases h31 : i = 31
  · subst h31
    have h' : y[31] = false := by simpa using h
    simp [h']
  · have : 1 + i < 32 := by omega
    simp [this]

/-- A number by its lowest four bits and the rest. -/
theorem split4 (x : BitVec 32) : x = (x &&& 15#32) ^^^ ((x >>> 4) <<< 4) := by
  apply BitVec.eq_of_getLsbD_eq
  intro i hi
  simp only [BitVec.getLsbD_xor, BitVec.getLsbD_and, BitVec.getLsbD_shiftLeft, BitVec.getLsbD_ushiftRight]
  have h15 : ∀ j, j < 32 → (15#32).getLsbD j = decide (j < 4) := by decide
  rw [h15 i hi]
  by_cases h4 : i < 4
  · simp [h4]
  · have : 4 + (i - 4) = i := by omega
    simp [h4, hi, this]

theorem it4_high (x : BitVec 32) : it 4 ((x >>> 4) <<< 4) = x >>> 4 := by
  have e : (x >>> 4) <<< 4 = ((((x >>> 4) <<< 1) <<< 1) <<< 1) <<< 1 := by
    simp [← BitVec.shiftLeft_add]
  have hb : ∀ j, 28 ≤ j → (x >>> 4).getLsbD j = false := fun j hj => by
    rw [BitVec.getLsbD_ushiftRight]; exact BitVec.getLsbD_of_ge _ _ (by omega)
  have s1 : ∀ (z : BitVec 32) (k : Nat), (∀ j, k + 1 ≤ j → z.getLsbD j = false) → ∀ j, k + 2 ≤ j → (z <<< 1).getLsbD j = false := fun z k h j hj => by
    rw [BitVec.getLsbD_shiftLeft]
    simp [h (j - 1) (by omega)]
  have h0 := hb
  have h1 := s1 _ 27 h0
  have h2 := s1 _ 28 h1
  have h3 := s1 _ 29 h2
  rw [e]
  show step (step (step (step _))) = _
  rw [step_double _ (h3 31 (by omega)), step_double _ (h2 31 (by omega)), step_double _ (h1 31 (by omega)), step_double _ (h0 31 (by omega))]
theorem it4 (x : BitVec 32) : it 4 x = it 4 (x &&& 15#32) ^^^ (x >>> 4) := by
  conv => lhs; rw [split4 x]
  rw [it_xor, it4_high]

/-- A linear map by its values at single bits. -/
def low (k : Nat) (x : BitVec 32) : BitVec 32 := x &&& (BitVec.ofNat 32 (2 ^ k - 1))
theorem low_bit (k : Nat) (hk : k ≤ 32) (x : BitVec 32) (i : Nat) (hi : i < 32) : (low k x).getLsbD i = (x.getLsbD i && decide (i < k)) := by
  unfold low
  rw [BitVec.getLsbD_and, BitVec.getLsbD_ofNat, Nat.testBit_two_pow_sub_one]
  simp [hi]
theorem low_zero (x : BitVec 32) : low 0 x = 0#32 := by simp [low]
theorem low_all (x : BitVec 32) : low 32 x = x := by
  apply BitVec.eq_of_getLsbD_eq
  intro i hi
  rw [low_bit 32 (by omega) x i hi]; simp [hi]
theorem low_succ (k : Nat) (hk : k < 32) (x : BitVec 32) : low (k + 1) x = low k x ^^^ (if x.getLsbD k then 1#32 <<< k else 0#32) := by
  apply BitVec.eq_of_getLsbD_eq
  intro i hi
  rw [BitVec.getLsbD_xor, low_bit _ (by omega) x i hi, low_bit _ (by omega) x i hi]
  have h1 : ∀ j, (1#32).getLsbD j = decide (j = 0) := by intro j; cases j <;> simp [BitVec.getLsbD_one]
  by_cases hb : x.getLsbD k = true
  · simp only [hb, if_true, BitVec.getLsbD_shiftLeft, h1]
    by_cases e : i = k
    · subst e; simp [hb, hi]
    · by_cases l : i < k
      · simp [l, show i < k + 1 by omega]
      · have : ¬ i < k + 1 := by omega
        have : ¬ i - k = 0 := by omega
        simp [*]
  · have hb' : x.getLsbD k = false := by simpa using hb
    simp only [hb', Bool.false_eq_true, if_false]
    by_cases e : i = k
    · subst e; rw [hb']; simp
    · by_cases l : i < k
      · simp [l, show i < k + 1 by omega]
      · have : ¬ i < k + 1 := by omega
        simp [*]

/-- What a text does to a register. -/
def runs : BitVec 32 → List Int → BitVec 32
  | s, [] => s
  | s, c :: t => runs (it 8 (s ^^^ BitVec.ofInt 32 c)) t
theorem runs_append (s : BitVec 32) (a b : List Int) : runs s (a ++ b) = runs (runs s a) b := by
  induction a generalizing s with
  | nil => rfl
  | cons c a ih => simp [runs, ih]
theorem runs_snoc (s : BitVec 32) (a : List Int) (c : Int) : runs s (a ++ [c]) = it 8 (runs s a ^^^ BitVec.ofInt 32 c) := by
  rw [runs_append]; rfl
theorem runs_xor (s d : BitVec 32) (t : List Int) : runs (s ^^^ d) t = runs s t ^^^ it (8 * t.length) d := by
  induction t generalizing s d with
  | nil => rfl
  | cons c t ih =>
    simp only [runs, List.length_cons]
    rw [show s ^^^ d ^^^ BitVec.ofInt 32 c = (s ^^^ BitVec.ofInt 32 c) ^^^ d by ac_rfl, it_xor, ih, Nat.mul_succ, Nat.add_comm (8 * t.length) 8, it_add]
/-- The sum. -/
def ones : BitVec 32 := ~~~ 0#32
def sumB (t : List Int) : BitVec 32 := ~~~ (runs ones t)
def sum (t : List Int) : Int := ((sumB t).toNat : Int)

theorem not_eq (x : BitVec 32) : ~~~ x = x ^^^ ~~~ 0#32 := by
  rw [BitVec.not_zero, BitVec.xor_allOnes]
theorem sumB_append (a b : List Int) : sumB (a ++ b) = it (8 * b.length) (sumB a) ^^^ sumB b := by
  unfold sumB ones
  rw [runs_append, show runs (~~~ 0#32) a = ~~~ 0#32 ^^^ ~~~ runs (~~~ 0#32) a by
    rw [not_eq (runs _ a)]
    rw [show ~~~0#32 ^^^ (runs (~~~0#32) a ^^^ ~~~0#32) = runs (~~~0#32) a ^^^ (~~~0#32 ^^^ ~~~0#32) by ac_rfl, BitVec.xor_self, BitVec.xor_zero], runs_xor]
  rw [not_eq, not_eq (runs (~~~ 0#32) b)]
  rw [show ~~~0#32 ^^^ ~~~runs (~~~0#32) a = runs (~~~0#32) a by
    rw [not_eq (runs _ a)]
    rw [show ~~~0#32 ^^^ (runs (~~~0#32) a ^^^ ~~~0#32) = runs (~~~0#32) a ^^^ (~~~0#32 ^^^ ~~~0#32) by ac_rfl, BitVec.xor_self, BitVec.xor_zero]]
  ac_rfl
end Go.Proofs.YtblfmofhfbbmdaaDoor.Crc
namespace Go.Proofs.YtblfmofhfbbmdaaDoor.Crc
open Go
/-! ### Numbers as the walk writes them -/
def bv (x : Int) : BitVec 32 := BitVec.ofInt 32 x
def un (b : BitVec 32) : Int := (b.toNat : Int)
theorem un_range (b : BitVec 32) : 0 ≤ un b ∧ un b < 4294967296 := by
  unfold un
  have := b.isLt
  omega
theorem bv_un (b : BitVec 32) : bv (un b) = b := by
  unfold bv un
  apply BitVec.eq_of_toNat_eq
  rw [BitVec.toNat_ofInt]
  have := b.isLt
  omega
theorem un_bv (x : Int) (h : 0 ≤ x ∧ x < 4294967296) : un (bv x) = x := by
  unfold bv un
  rw [BitVec.toNat_ofInt]
  omega
theorem un_inj {a b : BitVec 32} (h : un a = un b) : a = b := by rw [← bv_un a, h, bv_un]
theorem wrap_un (n : Nat) (h : n < 4294967296) : IntKind.u32.wrap (n : Int) = (n : Int) := by
  simp [IntKind.wrap, IntKind.bits, IntKind.signed]
  omega
theorem bits_xor (x y : Int) : bits .xor .u32 x y = un (bv x ^^^ bv y) := by
  unfold bits un bv
  exact wrap_un _ (BitVec.isLt _)
theorem bits_and (x y : Int) : bits .and .u32 x y = un (bv x &&& bv y) := by
  unfold bits un bv
  exact wrap_un _ (BitVec.isLt _)
theorem un_shr4 (b : BitVec 32) : un b / (16 : Int) = un (b >>> 4) := by
  unfold un
  rw [BitVec.toNat_ushiftRight, Nat.shiftRight_eq_div_pow]
  omega
theorem un_half (b : BitVec 32) : un b / (2 : Int) = un (b >>> 1) := by
  unfold un
  rw [BitVec.toNat_ushiftRight, Nat.shiftRight_eq_div_pow]
  omega

def halves : List Int := [0, 498536548, 997073096, 651767980, 1994146192, 1802195444, 1303535960, 1342533948, 3988292384, 4027552580, 3604390888, 3412177804, 2607071920, 2262029012, 2685067896, 3183342108]
theorem halves_at : ∀ i : Fin 16, halves[i.val]?.getD 0 = un (it 4 (BitVec.ofNat 32 i.val)) := by decide
theorem halves_and (b : BitVec 32) : halves[(un (b &&& 15#32)).toNat]?.getD 0 = un (it 4 (b &&& 15#32)) := by
  have hlt : (b &&& 15#32).toNat < 16 := by
    rw [BitVec.toNat_and]
    exact Nat.lt_of_le_of_lt Nat.and_le_right (by decide)
  have h := halves_at ⟨(b &&& 15#32).toNat, hlt⟩
  simp only [BitVec.ofNat_toNat, BitVec.setWidth_eq] at h
  simpa [un] using h
theorem and15 (x : Int) : 0 ≤ bits .and .u32 x 15 ∧ bits .and .u32 x 15 < 16 := by
  rw [bits_and]
  have hlt : (bv x &&& bv 15).toNat < 16 := by
    rw [BitVec.toNat_and]
    exact Nat.lt_of_le_of_lt Nat.and_le_right (by decide)
  unfold un
  omega
/-- What the program's push comes to. -/
theorem push_form (x c : Int) :
    bits .xor .u32 (halves[(bits .and .u32 (bits .xor .u32 (halves[(bits .and .u32 (bits .xor .u32 x c) 15).toNat]?.getD 0) (bits .xor .u32 x c / 16)) 15).toNat]?.getD 0)
      (bits .xor .u32 (halves[(bits .and .u32 (bits .xor .u32 x c) 15).toNat]?.getD 0) (bits .xor .u32 x c / 16) / 16) = un (it 8 (bv x ^^^ bv c)) := by
  have e15 : bv 15 = 15#32 := by decide
  have one : ∀ X : BitVec 32, bits .xor .u32 (halves[(bits .and .u32 (un X) 15).toNat]?.getD 0) (un X / 16) = un (it 4 X) := fun X => by
    rw [bits_xor, bits_and, bv_un, e15, halves_and, un_shr4, bv_un, bv_un, ← it4]
  rw [bits_xor x c, one, one, ← it_add]

theorem sum_range (t : List Int) : 0 ≤ sum t ∧ sum t < 4294967296 := un_range _
end Go.Proofs.YtblfmofhfbbmdaaDoor.Crc
namespace Go.Proofs.YtblfmofhfbbmdaaDoor.Crc
open Go
theorem bit_at (x : Int) (h : 0 ≤ x ∧ x < 4294967296) (k : Nat) : bits .and .u32 (x / 2 ^ k) 1 = if (bv x).getLsbD k then 1 else 0 := by
  have e : x / 2 ^ k = un (bv x >>> k) := by
    conv => lhs; rw [← un_bv x h]
    unfold un
    rw [BitVec.toNat_ushiftRight, Nat.shiftRight_eq_div_pow]
    norm_cast
  rw [bits_and, e, bv_un, show bv 1 = 1#32 by decide]
  unfold un
  rw [BitVec.toNat_and, BitVec.toNat_ushiftRight, show (1#32).toNat = 1 by decide, Nat.and_one_is_mod, Nat.shiftRight_eq_div_pow]
  unfold BitVec.getLsbD
  rw [Nat.testBit_eq_decide_div_mod_eq]
  by_cases hb : (bv x).toNat / 2 ^ k % 2 = 1
  · simp [hb]
  · simp only [hb, decide_false, Bool.false_eq_true, if_false]
    omega
theorem bit_yes (x : Int) (h : 0 ≤ x ∧ x < 4294967296) (k : Nat) (hb : (bits .and .u32 (x / 2 ^ k) 1 == 1) = true) : (bv x).getLsbD k = true := by
  rw [bit_at x h k] at hb
  cases hc : (bv x).getLsbD k <;> simp [hc] at hb ⊢
theorem bit_no (x : Int) (h : 0 ≤ x ∧ x < 4294967296) (k : Nat) (hb : (bits .and .u32 (x / 2 ^ k) 1 == 1) = false) : (bv x).getLsbD k = false := by
  rw [bit_at x h k] at hb
  cases hc : (bv x).getLsbD k <;> simp [hc] at hb ⊢
theorem of_yes (p k : Nat) (hk : k < 32) (X : BitVec 32) (h : X.getLsbD k = true) : bits .xor .u32 (un (it p (low k X))) (un (it p (1#32 <<< k))) = un (it p (low (k + 1) X)) := by
  rw [bits_xor, bv_un, bv_un, low_succ k hk, h, if_pos rfl, it_xor]
theorem of_no (p k : Nat) (hk : k < 32) (X : BitVec 32) (h : X.getLsbD k = false) : un (it p (low k X)) = un (it p (low (k + 1) X)) := by
  rw [low_succ k hk, h]; simp
/-- The bits of a number that are shifted in. -/
theorem shl_one (k : Nat) (hk : k < 32) : (2 : Int) ^ k = un (1#32 <<< k) := by
  unfold un
  rw [BitVec.toNat_shiftLeft, Nat.shiftLeft_eq]
  have h2 : 2 ^ k < 2 ^ 32 := Nat.pow_lt_pow_right (by decide) hk
  rw [show (1#32).toNat = 1 by decide, Nat.one_mul, Nat.mod_eq_of_lt h2]
  norm_cast
end Go.Proofs.YtblfmofhfbbmdaaDoor.Crc
namespace Go.Proofs.YtblfmofhfbbmdaaDoor.Crc
open Go
theorem and1_i64 (n : Nat) (h : n ≤ 9223372036854775807) : bits .and .i64 (n : Int) 1 = ((n % 2 : Nat) : Int) := by
  unfold bits
  have e : (BitVec.ofInt 64 (n : Int) &&& BitVec.ofInt 64 1).toNat = n % 2 := by
    rw [BitVec.toNat_and, BitVec.toNat_ofInt, BitVec.toNat_ofInt]
    rw [show ((1 : Int) % ((2 ^ 64 : Nat) : Int)).toNat = 1 by decide, Nat.and_one_is_mod]
    omega
  show IntKind.i64.wrap ((BitVec.ofInt 64 (n : Int) &&& BitVec.ofInt 64 1).toNat : Int) = _
  rw [e]
  have : n % 2 < 2 := Nat.mod_lt _ (by decide)
  simp [IntKind.wrap, IntKind.bits, IntKind.signed]
  omega
theorem odd_i64 (n : Nat) (h : n ≤ 9223372036854775807) (ho : n % 2 = 1) : (bits .and .i64 (n : Int) 1 == 1) = true := by
  rw [and1_i64 n h, ho]; rfl
theorem even_i64 (n : Nat) (h : n ≤ 9223372036854775807) (ho : ¬ n % 2 = 1) : (bits .and .i64 (n : Int) 1 == 1) = false := by
  rw [and1_i64 n h, show n % 2 = 0 by omega]; rfl
theorem pow_odd (p n : Nat) (X : BitVec 32) (h : n % 2 = 1) : it ((p + p) * (n / 2)) (it p X) = it (p * n) X := by
  rw [← it_add]
  congr 1
  have : n = 2 * (n / 2) + 1 := by omega
  rw [Nat.add_mul]
  conv => rhs; rw [this, Nat.mul_add, Nat.mul_one, ← Nat.mul_assoc, Nat.mul_comm p 2, Nat.two_mul, Nat.add_mul]
  omega
theorem pow_even (p n : Nat) (X : BitVec 32) (h : ¬ n % 2 = 1) : it ((p + p) * (n / 2)) X = it (p * n) X := by
  congr 1
  have : n = 2 * (n / 2) := by omega
  rw [Nat.add_mul]
  conv => rhs; rw [this, ← Nat.mul_assoc, Nat.mul_comm p 2, Nat.two_mul, Nat.add_mul]
structure Aside0 (p : Prop) : Prop where mk :: (out : p)
end Go.Proofs.YtblfmofhfbbmdaaDoor.Crc
namespace Go.Proofs.YtblfmofhfbbmdaaDoor.Crc
open Go
theorem un_mod2 (X : BitVec 32) : un X % 2 = if X.getLsbD 0 then 1 else 0 := by
  unfold un BitVec.getLsbD
  rw [Nat.testBit_zero]
  by_cases h : X.toNat % 2 = 1
  · simp [h]; omega
  · simp only [h, decide_false, Bool.false_eq_true, if_false]; omega
theorem odd_yes (X : BitVec 32) (h : X.getLsbD 0 = true) : (un X % 2 == 1) = true := by rw [un_mod2, h]; rfl
theorem odd_no (X : BitVec 32) (h : X.getLsbD 0 = false) : (un X % 2 == 1) = false := by rw [un_mod2, h]; rfl
theorem step_yes (X : BitVec 32) (h : X.getLsbD 0 = true) : bits .xor .u32 (un X / 2) 3988292384 = un (step X) := by
  rw [bits_xor, un_half, bv_un, show bv 3988292384 = poly by decide]
  unfold step; rw [h]; rfl
theorem step_no (X : BitVec 32) (h : X.getLsbD 0 = false) : un X / 2 = un (step X) := by
  rw [un_half]
  unfold step; rw [h]; simp
end Go.Proofs.YtblfmofhfbbmdaaDoor.Crc
