/- Rows of whole numbers, read and owned; numbers as bytes, the lowest first: what the functions of package octet come to, in plain lists. -/
import Derived.Test.YtblfmofhfbbmdaaDoorMem
import Derived.Laws.MakeOwn
import Derived.Deep.OwnRows
import Derived.Laws.OwnMore
import Derived.Deep.Slices
import Derived.Deep.AppendLies
import Derived.Deep.RegionLaw
import Derived.Deep.RegionWith
set_option linter.unusedVariables false
set_option linter.unusedSimpArgs false
namespace Go.Proofs.YtblfmofhfbbmdaaDoor
open Go.RowKit

/-- A fact that the walk's simp doesn't look into. -/
structure Aside1 (p : Prop) : Prop where mk :: (out : p)

/-- One byte in a box of its own. -/
theorem RBy.box (w : World) (c : Int) (hc : 0 ≤ c ∧ c < 256) : RBy (w.alloc (.cells #[.int .u8 c] 5)) (.slice (some ⟨w.heap.size, 0, none⟩) 1 1) [c] :=
  RBy.lit [c] (heap_top _ _ _ rfl) rfl (by simpa using hc) rfl (by decide)

theorem own_bare (w : World) : OB (w.alloc (.cells #[] 5)) w.heap.size (.slice (some ⟨w.heap.size, 0, none⟩) 0 0) [] := OB.made w _ #[] 0 (Nat.le_refl _) (by simp [maxLen]) rfl

theorem below_drew {B : Nat} {w W : World} (h : Below B w W) : Below B w W.drew := ⟨h.os, h.tape, h.output, h.size, h.block⟩

def vlen : Value → Nat
  | .slice _ n _ => n
  | _ => 0
theorem RBy.form {w : World} {v : Value} {xs : List Int} (h : RBy w v xs) : ∃ A c, v = .slice A xs.length c ∧ xs.length ≤ c := by
  obtain ⟨A, c, e, h2, _⟩ := h
  exact ⟨A, c, e, h2⟩

/-! ### Rows of whole numbers -/
def nums (k : IntKind) (xs : List Int) : List Value := xs.map (Value.int k)
theorem nums_get (k : IntKind) (xs : List Int) (j : Nat) (h : j < xs.length) : (nums k xs)[j]? = some (.int k (xs[j]?.getD 0)) := by
  simp [nums, h]
theorem nums_append (k : IntKind) (xs ys : List Int) : nums k (xs ++ ys) = nums k xs ++ nums k ys := by simp [nums]
def RI (k : IntKind) (w : World) (v : Value) (xs : List Int) : Prop :=
  ∃ A c, v = .slice A xs.length c ∧ xs.length ≤ c ∧ xs.length ≤ 9223372036854775807 ∧ (A = none → c = 0) ∧
    (0 < xs.length → ∃ ad, A = some ad ∧ ∀ j, j < xs.length → w.cell? (ad.add j) = some (.int k (xs[j]?.getD 0)))
theorem RI.below {k : IntKind} {w w' : World} {v : Value} {xs : List Int} (h : RI k w v xs) (hb : Below w.heap.size w w') : RI k w' v xs := by
  obtain ⟨A, c, h1, h2, h3, h6, h5⟩ := h
  refine ⟨A, c, h1, h2, h3, h6, fun hp => ?_⟩
  obtain ⟨ad, e, hc⟩ := h5 hp
  exact ⟨ad, e, fun j hj => keep_cell hb (Nat.le_refl _) (hc j hj)⟩
theorem RI.nil (k : IntKind) (w : World) : RI k w (.slice none 0 0) [] := ⟨none, 0, rfl, by simp, by simp, fun _ => rfl, fun h => absurd h (by simp)⟩
theorem RI.row {k : IntKind} {w : World} {g : Nat} {arr : Array Value} {t : TypeId} {fr : Nat × Nat} (hg : w.heap[g]? = some (.cells arr t fr)) (xs : List Int) (c : Nat) (hc : xs.length ≤ c) (hl : xs.length ≤ 9223372036854775807)
    (ha : arr.toList.take xs.length = nums k xs) : RI k w (.slice (some ⟨g, 0, none⟩) xs.length c) xs := by
  refine ⟨_, c, rfl, hc, hl, (fun h => by cases h), fun _ => ⟨_, rfl, fun j hj => ?_⟩⟩
  rw [add_plain, cell_of_row w g j _ _ _ hg]
  have h1 : (arr.toList.take xs.length)[j]? = some (.int k (xs[j]?.getD 0)) := by rw [ha, nums_get _ _ _ hj]
  rw [List.getElem?_take, if_pos hj] at h1
  simpa using h1
def OI (k : IntKind) (e : TypeId) (w : World) (base : Nat) (v : Value) (xs : List Int) : Prop := w.ownsRow base e 1 v xs.length (nums k xs)
theorem OI.nil (k : IntKind) (e : TypeId) (w : World) (base : Nat) : OI k e w base (.slice none 0 0) [] := World.ownsRow_nil w base e 1
theorem OI.reads {k : IntKind} {e : TypeId} {w : World} {base : Nat} {v : Value} {xs : List Int} (h : OI k e w base v xs) : RI k w v xs := by
  obtain ⟨h1, h2⟩ := h
  rcases h2 with ⟨rfl, h0⟩ | ⟨g, cap, cur, rfl, hg, hh, hn, hm, hs, ht⟩
  · obtain rfl : xs = [] := List.eq_nil_of_length_eq_zero h0
    exact RI.nil k w
  · exact RI.row hh xs cap hn (by simp only [maxLen] at hm; omega) (by rw [← ht, Nat.mul_one])
theorem OI.kept {k : IntKind} {e : TypeId} {w w' : World} {base : Nat} {v : Value} {xs : List Int} {row : Option Nat} (h : OI k e w base v xs) (hg : w.grownBy w' row) (hne : v.ownBlock = none ∨ v.ownBlock ≠ row) : OI k e w' base v xs := World.ownsRow.kept h hg hne
theorem OI.below {k : IntKind} {e : TypeId} {w w' : World} {base : Nat} {v : Value} {xs : List Int} (h : OI k e w base v xs) (hb : Below w.heap.size w w') : OI k e w' base v xs := h.kept (grown_of_below hb none) (by cases v.ownBlock <;> simp)
theorem OI.blk {k : IntKind} {e : TypeId} {w : World} {base : Nat} {v : Value} {xs : List Int} (h : OI k e w base v xs) : ∀ b, v.ownBlock = some b → base ≤ b ∧ b < w.heap.size := World.ownsRow.lt h
theorem OI.lower {k : IntKind} {e : TypeId} {w : World} {b1 b2 : Nat} {v : Value} {xs : List Int} (h : OI k e w b1 v xs) (hb : b2 ≤ b1) : OI k e w b2 v xs := by
  obtain ⟨h1, h2⟩ := h
  refine ⟨h1, ?_⟩
  rcases h2 with h2 | ⟨g, cap, cur, e, hg, r⟩
  · exact Or.inl h2
  · exact Or.inr ⟨g, cap, cur, e, Nat.le_trans hb hg, r⟩
theorem below_grownI {k : IntKind} {e : TypeId} {w W w1 : World} {base : Nat} {v : Value} {xs : List Int} (hb : Below w.heap.size w W) (ho : OI k e W base v xs) (hbase : w.heap.size ≤ base) (hg : W.grownBy w1 v.ownBlock) : Below w.heap.size w w1 :=
  hb.grown hg hb.size (fun j hj => Nat.le_trans hbase (ho.blk j hj).1)
theorem OI.form {k : IntKind} {e : TypeId} {w : World} {base : Nat} {v : Value} {xs : List Int} (h : OI k e w base v xs) (hp : 0 < xs.length) : ∃ g cap, v = .slice (some ⟨g, 0, none⟩) xs.length cap ∧ base ≤ g ∧ xs.length ≤ cap ∧ xs.length ≤ 9223372036854775807 ∧ (v.ownBlock = some g) := by
  obtain ⟨h1, h2⟩ := h
  rcases h2 with ⟨rfl, h0⟩ | ⟨g, cap, cur, rfl, hg, hh, hn, hm, hs, ht⟩
  · omega
  · exact ⟨g, cap, rfl, hg, hn, by simp only [maxLen] at hm; omega, rfl⟩
theorem OI.cell {k : IntKind} {e : TypeId} {w : World} {base g n cap : Nat} {xs : List Int} (h : OI k e w base (.slice (some ⟨g, 0, none⟩) n cap) xs) (j : Nat) (hj : j < xs.length) : w.cell? ⟨g, j, none⟩ = some (.int k (xs[j]?.getD 0)) := by
  have := World.ownsRow.cells h (g := g) rfl j (.int k (xs[j]?.getD 0)) (nums_get k xs j hj)
  rwa [add_plain] at this
/-- Two rows of unlike elements don't lie in one block. -/
theorem own_unlike {w : World} {b b' : Nat} {e e' : TypeId} {s s' n n' : Nat} {v v' : Value} {xs xs' : List Value} (h : w.ownsRow b e s v n xs) (h' : w.ownsRow b' e' s' v' n' xs') (hne : e ≠ e') : v.ownBlock = none ∨ v.ownBlock ≠ v'.ownBlock := by
  rcases h.2 with ⟨rfl, _⟩ | ⟨g, cap, cur, rfl, _, hh, _⟩
  · exact .inl rfl
  · refine .inr fun hk => ?_
    rcases h'.2 with ⟨rfl, _⟩ | ⟨g', cap', cur', rfl, _, hh', _⟩
    · simp [Value.ownBlock] at hk
    · have : g = g' := by simpa [Value.ownBlock] using hk
      subst this
      rw [hh] at hh'
      injection hh' with hh'
      injection hh' with _ ht
      exact hne ht

section
variable {P : Program} {w : World} {ops : Array Oper} {rest : List Oper} {o : Oper} {a : Act} {Q : Exit → Act → World → Prop}
/-- append(v, x) of one number: behind the box of the variadic. -/
theorem wpList_app1 (hgd : o.guard = none) (s x : Operand) (t e : TypeId) (k : IntKind) (bts : Nat)
    (ho : o.op = .call { callee := .builtin .append, args := #[s, x], argTypes := #[t, t] })
    (ht : P.underlying t = some (.slice e)) (hinfo : (P.info? e).map (fun i => (i.zero, i.size, i.bytes)) = some (some (.int k 0), 1, bts)) (hb0 : 0 < bts)
    (base : Nat) (v : Value) (xs : List Int) (y : Int) (hs : a.eval s = v) (hx : a.eval x = .slice (some ⟨w.heap.size, 0, none⟩) 1 1) (hown : OI k e w base v xs)
    (hlen : (xs.length + 1) * bts ≤ 140737488355328) (hbase : base ≤ w.heap.size)
    (h : ∀ v' w', OI k e w' base v' (xs ++ [y]) → w.grownBy w' v.ownBlock → (v'.ownBlock = v.ownBlock ∨ ∃ b, v'.ownBlock = some b ∧ w.heap.size ≤ b) → wpList P ops Q rest (a.put o.dst v') w') :
    wpList P ops Q (o :: rest) a (w.alloc (.cells #[.int k y] e)) := by
  obtain ⟨i0, hi, hzz⟩ := Option.map_eq_some_iff.1 hinfo
  simp only [Prod.mk.injEq] at hzz
  obtain ⟨hz0, hz1, hz2⟩ := hzz
  have h2 : xs.length + 1 ≤ 140737488355328 := Nat.le_trans (Nat.le_mul_of_pos_right _ hb0) hlen
  refine wpList_append_own_at _ hgd s x t ho base e i0 (.int k 0) 1 bts ht hi hz0 hz1 hz2 rfl (by decide) v xs.length (nums k xs) hs (World.ownsRow.alloc hown _) ⟨w.heap.size, 0, none⟩ 1 1 [.int k y] hx (by simp)
    (cell_one_new w (.int k y) e) (fun u hu => ?_) (by simp only [maxLen]; omega) hlen (by simp; omega) ?_
  · simp at hu; subst hu; rfl
  · intro v' w' ho' hg _ hat
    refine h v' w' (by unfold OI; rw [nums_append, List.length_append]; exact ho') (World.grownBy.trans (World.grownBy_alloc w _ _) hg) ?_
    rcases hat with hat | hat
    · exact Or.inl hat
    · exact Or.inr ⟨_, hat, by simp⟩
end

section
variable {P : Program} {w : World} {ops : Array Oper} {o : Oper} {a : Act} {Q : Exit → Act → World → Prop} {K : Act → World → Prop} {E : Prop}
/-- append(v, u...) as a run. -/
theorem run_app (t ty : TypeId) (ht : P.underlying t = some (.slice 5)) (hinfo : (P.info? 5).map (fun i => (i.zero, i.size, i.bytes)) = some (some (.int .u8 0), 1, 1))
    (base : Nat) (v u : Value) (xs ys : List Int) (hown : OB w base v xs) (hr : RBy w u ys) (hlen : xs.length + ys.length ≤ 140737488355328) (hbase : base ≤ w.heap.size) :
    ∃ v' w', (Builtin.append_ #[t, t] ty #[v, u]).run P w = .ok v' w' ∧ OB w' base v' (xs ++ ys) ∧ w.grownBy w' v.ownBlock ∧ (v'.ownBlock = v.ownBlock ∨ v'.ownBlock = some w.heap.size) := by
  obtain ⟨i0, hi, hzz⟩ := Option.map_eq_some_iff.1 hinfo
  simp only [Prod.mk.injEq] at hzz
  obtain ⟨hz0, hz1, hz2⟩ := hzz
  have hby := hr.isB
  obtain ⟨A, c, rfl, hc, hl, hb, hA, hcell⟩ := hr
  cases A with
  | none =>
    have hy : ys = [] := by
      cases ys with
      | nil => rfl
      | cons y ys => obtain ⟨ad, e, _⟩ := hcell (by simp); cases e
    subst hy
    have hc0 := hA rfl
    subst hc0
    exact ⟨v, w, run_append_owned_none (P := P) (w := w) base t ty 5 i0 1 ht hi v xs.length (bytes xs) hown.1, by rw [List.append_nil]; exact hown, ⟨rfl, rfl, rfl, Nat.le_refl _, fun _ _ _ => rfl⟩, Or.inl rfl⟩
  | some ad =>
    obtain ⟨v', w', hrun, ho', hg, _, hat⟩ := run_append_own_at (P := P) w base t ty 5 i0 (.int .u8 0) 1 1 ht hi hz0 hz1 hz2 rfl (by decide) v xs.length (bytes xs) hown.1 ad ys.length c (bytes ys) (by simp [bytes]) (fun j u hj => by
      have hjl : j < ys.length := by
        have := (List.getElem?_eq_some_iff.1 hj).1
        simpa [bytes] using this
      obtain ⟨ad', e, hcs⟩ := hcell (by omega)
      cases e
      rw [bytes_get ys j hjl] at hj
      cases hj
      exact hcs j hjl) (fun u hu => by
      simp only [bytes, List.mem_map] at hu
      obtain ⟨z, _, rfl⟩ := hu
      rfl) (by simp only [maxLen]; omega) (by omega) hbase
    exact ⟨v', w', hrun, ⟨by rw [bytes_append, List.length_append]; exact ho', hown.2.append hby⟩, hg, hat⟩
/-- append(v, u...) as a step of a region that draws its order. -/
theorem step_app (hgd : o.guard = none) (s x : Operand) (t : TypeId)
    (ho : o.op = .call { callee := .builtin .append, args := #[s, x], argTypes := #[t, t] })
    (ht : P.underlying t = some (.slice 5)) (hinfo : (P.info? 5).map (fun i => (i.zero, i.size, i.bytes)) = some (some (.int .u8 0), 1, 1))
    (base : Nat) (v u : Value) (xs ys : List Int) (hs : a.eval s = v) (hx : a.eval x = u) (hown : OB w base v xs) (hr : RBy w u ys)
    (hlen : xs.length + ys.length ≤ 140737488355328) (hbase : base ≤ w.heap.size)
    (h : ∀ v' w', OB w' base v' (xs ++ ys) → w.grownBy w' v.ownBlock → (v'.ownBlock = v.ownBlock ∨ v'.ownBlock = some w.heap.size) → K (a.put o.dst v') w') :
    if Region.wanted o (yielded ops a.tmps) = true then Oper.wp P o a w K Q else E := by
  have hw : Region.wanted o (yielded ops a.tmps) = true := by simp [Region.wanted, hgd]
  rw [if_pos hw]
  obtain ⟨v', w', hrun, h1, h2, h3⟩ := run_app (P := P) t o.type ht hinfo base v u xs ys hown hr hlen hbase
  unfold Oper.wp
  simp only [execOp, ho, resolve, invoke, builtin, List.map_toArray, List.map_cons, List.map_nil, Sem.run_bind, Sem.run_pure, Result.andThen_ok, hs, hx, hrun]
  exact h v' w' h1 h2 h3
end

/-! ### Numbers as bytes -/
/-- The first j of m bytes laid, the others 0. -/
def leUpto (m j : Nat) (n : Int) : List Int := (List.range m).map fun i => if i < j then n / 256 ^ i % 256 else 0
def le (m : Nat) (n : Int) : List Int := (List.range m).map fun i => n / 256 ^ i % 256
theorem leUpto_length (m j : Nat) (n : Int) : (leUpto m j n).length = m := by simp [leUpto]
theorem le_length (m : Nat) (n : Int) : (le m n).length = m := by simp [le]
theorem leUpto_get (m j : Nat) (n : Int) (i : Nat) (h : i < m) : (leUpto m j n)[i]? = some (if i < j then n / 256 ^ i % 256 else 0) := by simp [leUpto, h]
theorem le_get (m : Nat) (n : Int) (i : Nat) (h : i < m) : (le m n)[i]? = some (n / 256 ^ i % 256) := by simp [le, h]
theorem leUpto_zero (m : Nat) (n : Int) : leUpto m 0 n = List.replicate m 0 := by
  apply List.ext_getElem?
  intro i
  by_cases h : i < m
  · rw [leUpto_get _ _ _ _ h]; simp [h]
  · rw [List.getElem?_eq_none (by rw [leUpto_length]; omega), List.getElem?_eq_none (by simp; omega)]
theorem leUpto_full (m : Nat) (n : Int) : leUpto m m n = le m n := by
  apply List.ext_getElem?
  intro i
  by_cases h : i < m
  · rw [leUpto_get _ _ _ _ h, le_get _ _ _ h, if_pos h]
  · rw [List.getElem?_eq_none (by rw [leUpto_length]; omega), List.getElem?_eq_none (by rw [le_length]; omega)]
theorem leUpto_set (m j : Nat) (n : Int) (h : j < m) : (leUpto m j n).set j (n / 256 ^ j % 256) = leUpto m (j + 1) n := by
  apply List.ext_getElem?
  intro i
  rw [List.getElem?_set]
  by_cases hi : i < m
  · rw [leUpto_get _ _ _ _ hi, leUpto_get _ _ _ _ hi, leUpto_length]
    by_cases e : j = i
    · subst e; simp [h]
    · by_cases l : i < j
      · simp [e, l, show i < j + 1 by omega]
      · simp [e, l, show ¬ i < j + 1 by omega]
  · rw [List.getElem?_eq_none (by rw [leUpto_length]; omega), List.getElem?_eq_none (by rw [leUpto_length]; omega), if_neg (by omega)]
theorem le_isB (m : Nat) (n : Int) : IsB (le m n) := fun x hx => by
  simp only [le, List.mem_map] at hx
  obtain ⟨i, _, rfl⟩ := hx
  omega
theorem pow_step (n : Int) (j : Nat) : n / 256 ^ j / 256 = n / 256 ^ (j + 1) := by
  rw [Int.ediv_ediv_of_nonneg (by exact Int.pow_nonneg (by decide)), ← Int.pow_succ]
/-- Does a number have so many bytes? -/
def fits (n : Int) (m : Nat) : Bool := n / 256 ^ m == 0
def putE (n : Int) (size : Int) : Int := if 1 ≤ size ∧ size ≤ 8 then (if fits n size.toNat then 0 else 10) else 2
def putL (n : Int) (size : Int) : List Int := if 1 ≤ size ∧ size ≤ 8 then (if fits n size.toNat then le size.toNat n else []) else []
/-- The number of bytes, the lowest first, by 2^64. -/
def numU : List Int → Int
  | [] => 0
  | c :: t => (256 * numU t + c) % 18446744073709551616
theorem numU_range (xs : List Int) : 0 ≤ numU xs ∧ numU xs < 18446744073709551616 := by
  cases xs <;> simp only [numU] <;> omega
theorem numU_drop (xs : List Int) (j : Nat) (h : j < xs.length) : numU (xs.drop j) = (256 * numU (xs.drop (j + 1)) + xs[j]?.getD 0) % 18446744073709551616 := by
  rw [List.drop_eq_getElem_cons h, List.getElem?_eq_getElem h]; rfl
theorem wrap_u64 (x : Int) : IntKind.u64.wrap x = x % 18446744073709551616 := by
  simp [IntKind.wrap, IntKind.bits, IntKind.signed]
/-- n<<8 | c, of 64 bits. -/
theorem or_byte (n c : Int) (hn : 0 ≤ n ∧ n < 18446744073709551616) (hc : 0 ≤ c ∧ c < 256) : bits .or .u64 (IntKind.u64.wrap (n * 256)) c = (256 * n + c) % 18446744073709551616 := by
  rw [wrap_u64]
  unfold bits
  have e1 : (BitVec.ofInt 64 (n * 256 % 18446744073709551616)).toNat = (n * 256 % 18446744073709551616).toNat := by rw [BitVec.toNat_ofInt]; omega
  have e2 : (BitVec.ofInt 64 c).toNat = c.toNat := by rw [BitVec.toNat_ofInt]; omega
  show IntKind.u64.wrap ((BitVec.ofInt 64 (n * 256 % 18446744073709551616) ||| BitVec.ofInt 64 c).toNat : Int) = _
  rw [BitVec.toNat_or, e1, e2]
  have h3 : (n * 256 % 18446744073709551616).toNat = (n.toNat % 72057594037927936) <<< 8 := by
    rw [Nat.shiftLeft_eq]; omega
  rw [h3, ← Nat.shiftLeft_add_eq_or_of_lt (by omega : c.toNat < 2 ^ 8), Nat.shiftLeft_eq]
  simp [IntKind.wrap, IntKind.bits, IntKind.signed]
  omega
end Go.Proofs.YtblfmofhfbbmdaaDoor
