/- What the functions of package octet come to: the walks of Take, Pad, Blank. -/
import Derived.Test.YtblfmofhfbbmdaaOct2
set_option linter.unusedVariables false
set_option linter.unusedSimpArgs false
namespace Go.Proofs.Ytblfmofhfbbmdaa
open Go.RowKit

def takeF (xs : List Int) (s : Int) : Int × List Int × Int :=
  if okSize s then (if (xs.length : Int) < s then (0, [], 11) else (numU (xs.take s.toNat), xs.drop s.toNat, 0)) else (0, [], 2)
theorem fields_one (xs : List Int) (s : Int) : fields xs [s] = (if okSize s then (if (xs.length : Int) < s then ([], [], 11) else ([numU (xs.take s.toNat)], xs.drop s.toNat, 0)) else ([], [], 2)) := by
  by_cases h : okSize s
  · by_cases hl : (xs.length : Int) < s
    · rw [fields_short (by simpa using h) (by rw [fieldsGo, if_pos hl]), if_pos h, if_pos hl]
    · rw [fields_ok (by simpa using h) (by rw [fieldsGo, if_neg hl, fieldsGo]; rfl), if_pos h, if_neg hl]
  · rw [fields_bad (by simpa using h), if_neg h]
theorem takeF_fields (xs : List Int) (s : Int) : takeF xs s = ((fields xs [s]).1.headD 0, (fields xs [s]).2.1, (fields xs [s]).2.2) := by
  rw [fields_one, takeF]
  by_cases h : okSize s
  · rw [if_pos h, if_pos h]
    by_cases hl : (xs.length : Int) < s
    · rw [if_pos hl, if_pos hl]; rfl
    · rw [if_neg hl, if_neg hl]; rfl
  · rw [if_neg h, if_neg h]; rfl
theorem fields_one_num (xs : List Int) (s : Int) (h : (fields xs [s]).2.2 = 0) : (fields xs [s]).1 = [(fields xs [s]).1.headD 0] := by
  rw [fields_one] at h ⊢
  by_cases h1 : okSize s
  · rw [if_pos h1] at h ⊢
    by_cases hl : (xs.length : Int) < s
    · rw [if_pos hl] at h; simp at h
    · rw [if_neg hl]; rfl
  · rw [if_neg h1] at h; simp at h
theorem fields_one_bad (xs : List Int) (s : Int) (h : (fields xs [s]).2.2 ≠ 0) : (fields xs [s]).1 = [] ∧ (fields xs [s]).2.1 = [] := by
  rw [fields_one] at h ⊢
  by_cases h1 : okSize s
  · rw [if_pos h1] at h ⊢
    by_cases hl : (xs.length : Int) < s
    · rw [if_pos hl]; exact ⟨rfl, rfl⟩
    · rw [if_neg hl] at h; simp at h
  · rw [if_neg h1]; exact ⟨rfl, rfl⟩
/-- A written row of numbers is read. -/
theorem RI.lit {k : IntKind} {w : World} {b n c : Nat} {arr : Array Value} {t : TypeId} {fr : Nat × Nat} (xs : List Int) (hg : w.heap[b]? = some (.cells arr t fr)) (ha : arr.toList = nums k xs) (hn : n = xs.length) (hc : n ≤ c) (hl : xs.length ≤ 9223372036854775807) : RI k w (.slice (some ⟨b, 0, none⟩) n c) xs := by
  subst hn
  exact RI.row hg xs c hc hl (by rw [ha, List.take_of_length_le (by simp [nums])])

set_option maxHeartbeats 1000000 in
theorem take_any (v : Value) (xs : List Int) (s : Int) (w : World) (hv : RBy w v xs) (hs : -9223372036854775808 ≤ s ∧ s ≤ 9223372036854775807) (hxl : xs.length ≤ 140737488355328) :
    Calls Try.prog 12 #[v, .int .i64 s] w fun e w' => ∃ v2, e = .returned (.tuple #[.int .u64 (takeF xs s).1, v2, .int .i64 (takeF xs s).2.2]) ∧ OB w' w.heap.size v2 (takeF xs s).2.1 ∧ Below w.heap.size w w' := by
  have hE := Lib.hid (takeF_fields xs s)
  have hone := Lib.hid (fields_one_num xs s)
  have hbad := Lib.hid (fields_one_bad xs s)
  obtain ⟨Ab, cb, rfl, hcb, hnb, -, -, -⟩ := id hv
  generalize hF : fields xs [s] = F at hE hone hbad
  have HF := Lib.hid hF
  clear hF
  obtain ⟨ns, r, e⟩ := F
  by_cases he : e = 0
  · have h1 := hone.out he
    clear hone hbad
    generalize ns.headD 0 = n0 at h1 hE
    subst he
    simp only at h1 hE
    subst h1
    rw [hE.out]
    go_enter Try.func12, Try.ntmps12
    go_wp2_with (go_at_call 13; go_loud (refine (fields_any _ xs _ [s] _ (hv.below (below_alloc (Below.refl _ _) _)) (RI.lit [s] (heap_top _ _ _ rfl) rfl rfl (by simp) (by simp)) (by simpa using hs) hxl (by simp)).mono ?_; rw [HF.out]; rintro e w' ⟨v1, v2, rfl, ho1, ho2, hb⟩; obtain ⟨g, cap, rfl, hg1, hg2, hg3, hg4⟩ := ho1.form (by simp); have hcell := ho1.cell 0 (by simp); have hb := below_then (below_alloc (Below.refl _ _) _) hb; have hb := Lib.hid hb; clear ho1))
    go_ret3
    exact ⟨_, rfl, ho2.lower (by simp), hb.out⟩
  · obtain ⟨h1, h2⟩ := hbad.out he
    clear hone hbad
    simp only at h1 h2 hE
    subst h1 h2
    rw [hE.out]
    have hne : (e != 0) = true := by simp [bne, he]
    clear he
    go_enter Try.func12, Try.ntmps12
    go_wp2_with (go_at_call 13; go_loud (refine (fields_any _ xs _ [s] _ (hv.below (below_alloc (Below.refl _ _) _)) (RI.lit [s] (heap_top _ _ _ rfl) rfl rfl (by simp) (by simp)) (by simpa using hs) hxl (by simp)).mono ?_; rw [HF.out]; rintro e w' ⟨v1, v2, rfl, ho1, ho2, hb⟩; have hb := below_then (below_alloc (Below.refl _ _) _) hb; have hb := Lib.hid hb))
    go_ret3
    exact ⟨_, rfl, OB.nil _ _, hb.out⟩

def padF (xs : List Int) (s : Int) : List Int × Int :=
  if s < 0 ∨ 64 < s then ([], 2) else if s < xs.length then ([], 10) else (xs ++ List.replicate (s - xs.length).toNat 0, 0)
set_option maxHeartbeats 1000000 in
theorem pad_any (v : Value) (xs : List Int) (s : Int) (w : World) (hv : RBy w v xs) (hs : -9223372036854775808 ≤ s ∧ s ≤ 9223372036854775807) :
    Calls Try.prog 14 #[v, .int .i64 s] w fun e w' => ∃ v1, e = .returned (.tuple #[v1, .int .i64 (padF xs s).2]) ∧ OB w' w.heap.size v1 (padF xs s).1 ∧ Below w.heap.size w w' := by
  obtain ⟨Ab, cb, rfl, hcb, hnb, -, -, -⟩ := id hv
  by_cases h1 : s < 0
  · have hE : padF xs s = ([], 2) := by rw [padF, if_pos (Or.inl h1)]
    rw [hE]
    clear hE
    go_enter Try.func14, Try.ntmps14
    go_wp2
    go_ret2
    exact ⟨_, rfl, OB.nil _ _, Below.refl _ _⟩
  by_cases h2 : 64 < s
  · have hE : padF xs s = ([], 2) := by rw [padF, if_pos (Or.inr h2)]
    rw [hE]
    clear hE
    go_enter Try.func14, Try.ntmps14
    go_wp2
    go_ret2
    exact ⟨_, rfl, OB.nil _ _, Below.refl _ _⟩
  obtain ⟨m, rfl⟩ := Int.eq_ofNat_of_zero_le (by omega : 0 ≤ s)
  by_cases h3 : m < xs.length
  · have hE : padF xs m = ([], 10) := by rw [padF, if_neg (by omega), if_pos (by omega)]
    rw [hE]
    clear hE
    go_enter Try.func14, Try.ntmps14
    go_wp2
    go_ret2
    exact ⟨_, rfl, OB.nil _ _, Below.refl _ _⟩
  · obtain ⟨d, rfl⟩ : ∃ d, m = xs.length + d := ⟨m - xs.length, by omega⟩
    have hE : padF xs (xs.length + d : Nat) = (xs ++ List.replicate d 0, 0) := by
      rw [padF, if_neg (by omega), if_neg (by omega), show ((xs.length + d : Nat) : Int) - (xs.length : Int) = (d : Int) by omega, Int.toNat_natCast]
    rw [hE]
    clear hE
    have hmk := mk_bytes d (by omega)
    have hsub : ((xs.length : Int) + (d : Int)) - (xs.length : Int) = (d : Int) := by omega
    go_enter Try.func14, Try.ntmps14
    have hmade := ob_made w w.heap.size d (Nat.le_refl _) (by omega)
    have hb0 := below_alloc (Below.refl w.heap.size w) (.cells (madeCells #[.int .u8 0] d) 5)
    have hv0 := hv.below hb0
    have hlen2 : [xs, List.replicate d 0].flatten.length ≤ 140737488355328 := by simp; omega
    have hR := RBs.two (t := 23) (c := 2) (heap_top (w.alloc (.cells (madeCells #[.int .u8 0] d) 5)) (.cells #[.slice Ab xs.length cb, .slice (some ⟨w.heap.size, 0, none⟩) d d] 23) (w.heap.size + 1) (by simp)) (by decide) (hv0.below (below_alloc (Below.refl _ _) _)) (hmade.reads.below (below_alloc (Below.refl _ _) _))
    have HR := Lib.hid hR
    have Hlen2 := Lib.hid hlen2
    clear hmade hv0 hR hlen2
    go_wp2_with (go_at_call 28; refine (ojoin_any _ [xs, List.replicate d 0] _ HR.out Hlen2.out).mono ?_; rintro e w' ⟨v', rfl, ho, hb⟩; have hb := Lib.hid (below_then (below_alloc hb0 _) hb))
    go_ret2
    exact ⟨_, rfl, by have h9 := ho.lower (b2 := w.heap.size) (by simp; omega); simpa using h9, hb.out⟩

def blankF (xs : List Int) : Bool := xs.all fun x => x == 0
set_option maxHeartbeats 1000000 in
theorem blank_any (v : Value) (xs : List Int) (w : World) (hv : RBy w v xs) :
    Calls Try.prog 29 #[v] w fun e w' => e = .returned (.bool (blankF xs)) ∧ w = w' := by
  obtain ⟨A', c', rfl, hc', hn', hb', hA', hcell'⟩ := hv
  have hno : ∀ j, j < xs.length → xs[j]?.getD 0 ≠ 0 → blankF xs = false := fun j hj h0 => by
    rw [List.getElem?_eq_getElem hj] at h0
    exact List.all_eq_false.2 ⟨_, List.getElem_mem hj, by simpa using h0⟩
  have hyes : (∀ j, j < xs.length → xs[j]?.getD 0 = 0) → blankF xs = true := fun h => by
    refine List.all_eq_true.2 fun x hx => ?_
    obtain ⟨j, hj, rfl⟩ := List.mem_iff_getElem.1 hx
    have := h j hj
    rw [List.getElem?_eq_getElem hj] at this
    simpa using this
  have Hno := Lib.hid hno
  have Hyes := Lib.hid hyes
  clear hno hyes
  go_enter Try.func29, Try.ntmps29
  go_wp2
  go_loop [7] (fun i => ∃ j : Nat, j ≤ xs.length ∧ i = .int .i64 (j : Int) ∧ Aside1 (∀ k, k < j → xs[k]?.getD 0 = 0)) (fun i => xs.length - (intOf i).toNat)
  case atStart => exact ⟨0, Nat.zero_le _, rfl, ⟨fun k hk => by omega⟩⟩
  case round =>
    obtain ⟨j, hj, rfl, hall⟩ := hrel
    by_cases hlt : j < xs.length
    · obtain ⟨ad', rfl, hcs'⟩ := hcell' (by omega)
      have hx := hcs' j hlt
      clear hcell' hcs' hb'
      by_cases h0 : xs[j]?.getD 0 = 0
      · have hall2 : Aside1 (∀ k, k < j + 1 → xs[k]?.getD 0 = 0) := ⟨fun k hk => by
          by_cases e : k = j
          · subst e; exact h0
          · exact hall.out k (by omega)⟩
        rw [h0] at hx
        go_wp2
        go_round
        case rel => exact ⟨j + 1, by omega, by go_num, hall2⟩
        case measure => simp [intOf]; omega
      · have Hf := Lib.hid (Hno.out j hlt h0)
        generalize xs[j]?.getD 0 = c at hx h0
        have hne : (c != 0) = true := by simp [bne, h0]
        clear h0
        go_wp2
        go_ret
        exact ⟨by rw [Hf.out]; rfl, rfl⟩
    · have Hf := Lib.hid (Hyes.out fun k hk => hall.out k (by omega))
      go_wp2
      go_ret
      exact ⟨by rw [Hf.out]; rfl, rfl⟩
end Go.Proofs.Ytblfmofhfbbmdaa
