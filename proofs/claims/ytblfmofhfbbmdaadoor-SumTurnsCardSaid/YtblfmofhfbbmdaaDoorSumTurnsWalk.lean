/- The walk of the law SumTurns: it returns true, and nothing that was there has turned. -/
import Derived.Test.YtblfmofhfbbmdaaDoorFixed
import Derived.Test.YtblfmofhfbbmdaaDoorTurn
import Derived.Test.YtblfmofhfbbmdaaDoorTurns
import Derived.BigRegion
set_option linter.unusedVariables false
set_option linter.unusedSimpArgs false
namespace Go.Proofs.YtblfmofhfbbmdaaDoor
open Go.RowKit Crc

theorem OB.drew' {w : World} {base : Nat} {v : Value} {xs : List Int} (h : OB w base v xs) : OB w.drew base v xs := h
/-- (at % n + n) % n, at any number. -/
theorem place_in (a : Int) (L : Nat) (hp : 0 < L) (hL : L ≤ 100000) : ∃ k : Nat, k < L ∧ (wrap64 (a.tmod (L : Int) + (L : Int))).tmod (L : Int) = (k : Int) := by
  have hp : 0 < (L : Int) := by omega
  have h1 := Int.tmod_lt_of_pos a hp
  have h2 : -(L : Int) < a.tmod (L : Int) := Int.lt_tmod_of_pos a hp
  generalize a.tmod (L : Int) = r at h1 h2
  rw [show wrap64 (r + (L : Int)) = r + (L : Int) by unfold wrap64; omega]
  have h3 := Int.tmod_lt_of_pos (r + (L : Int)) hp
  have h5 := Int.tmod_nonneg (b := (L : Int)) (a := r + (L : Int)) (by omega)
  exact ⟨((r + (L : Int)).tmod (L : Int)).toNat, by omega, by omega⟩
theorem turned_at (L k : Nat) (x : Int) (h : k < L) : turnedI L k x = un (it (8 * (L - k)) (bv x)) := by
  unfold turnedI
  rw [if_neg (by omega)]
  congr 2
  omega
theorem turned_zero (L k : Nat) (x : Int) (h : k < L) (hx : 0 ≤ x ∧ x < 256) : (turnedI L k x == 0) = (x == 0) := by
  rw [turned_at L k x h, Bool.eq_iff_iff, beq_iff_eq, beq_iff_eq]
  constructor
  · intro h0
    have : it (8 * (L - k)) (bv x) = 0#32 := un_inj (by rw [h0]; rfl)
    have := it_ker _ _ this
    rw [← un_bv x (by omega), this]; rfl
  · intro h0
    subst h0
    rw [show bv 0 = 0#32 by decide, it_zero]; rfl
theorem sum_turned (xs : List Int) (k : Nat) (x : Int) (hk : k < xs.length) (hx : ∀ y ∈ xs, 0 ≤ y ∧ y < 256) (hb : 0 ≤ x ∧ x < 256) :
    bits .xor .u32 (sum xs) (turnedI xs.length k x) = sum (xs.set k (x8 (xs[k]?.getD 0) x)) := by
  rw [turned_at _ _ _ hk, bits_xor]
  unfold sum
  rw [sumB_turn xs k x hk hx hb, bv_un]
  have : bv ((sumB xs).toNat : Int) = sumB xs := bv_un _
  rw [this]; rfl

set_option maxRecDepth 100000 in
set_option maxHeartbeats 4000000 in
theorem sumTurns_walk (vx : Value) (x : List Int) (vt : Value) (ts : List (Int × Int)) (w : World) (hx : RBy w vx x) (hxl : x.length ≤ reachBytes) (hts : RTs w vt ts) (ht : Tab w) :
    Calls Tryd.prog 7 #[vx, vt] w fun e w' => e = .returned (.bool true) ∧ Below w.heap.size w w' := by
  clear hxl
  obtain ⟨At, ct, rfl, htc, htn, htr, htcell⟩ := hts
  have htcell' := Lib.hid htcell
  have htr' := Lib.hid htr
  clear htcell htr
  go_enter Tryd.func7, Tryd.ntmps7
  go_wp2_with fail
  refine (fixed_any _ ht).mono ?_
  rintro e w1 ⟨rfl, hb1⟩
  go_wp2_with fail
  refine (some_any _ _ _ (hx.below hb1)).mono ?_
  rintro e w2 ⟨ux, rfl, hox, hb⟩
  have hb2 := below_then hb1 hb
  have hB2 : w.heap.size ≤ w1.heap.size := hb1.size
  clear hb hb1 hx
  have hxl : (x.take 3000).length ≤ 3000 := by rw [List.length_take]; omega
  generalize x.take 3000 = x at hox hxl
  obtain ⟨Ax, cx, rfl, hxc, hxn, _⟩ := id hox.reads
  go_wp2_with fail
  refine (of_b _ [x] _ ?_ ?_).mono ?_
  · exact RBs.one (heap_top _ _ _ rfl) (by decide) (hox.reads.below (below_alloc (Below.refl _ _) _))
  · exact ht.below (below_alloc hb2 _)
  rintro e w3 ⟨rfl, hb⟩
  rw [show [x].flatten = x by simp]
  have hb3 := below_then (below_alloc hb2 _) hb
  have hq := below_then (below_alloc (Below.refl _ _) _) hb
  replace hox := hox.below hq
  clear hb hb2 hq
  obtain ⟨L, hL⟩ : ∃ L, x.length = L := ⟨_, rfl⟩
  rw [hL] at hox hxl hxc hxn ⊢
  go_wp2_with fail
  go_loopw [5, 7] (fun was i wr => ∃ (j : Nat) (xs : List Int), j ≤ ts.length ∧ i = .int .i64 j ∧ was = .int .u32 (sum xs) ∧ Aside0 (xs.length = L) ∧ OB wr w1.heap.size (.slice Ax L cx) xs ∧ Below w.heap.size w wr) (fun _ i _ => ts.length - (intOf i).toNat)
  case atStart => exact ⟨0, x, Nat.zero_le _, rfl, rfl, ⟨hL⟩, hox, hb3⟩
  case round =>
    obtain ⟨j, xs, hj, rfl, rfl, hlen, hor, hbr⟩ := hrel
    clear hb3 hox hL
    have hor2 := hor.reads
    by_cases hgo : j < ts.length ∧ j < 20 ∧ 0 < L
    · obtain ⟨h1, h2, h3⟩ := hgo
      obtain ⟨g, cap, hv, hg, -, -, -⟩ := hor.form (by rw [hlen.out]; exact h3)
      simp only [Value.slice.injEq] at hv
      obtain ⟨rfl, -, rfl⟩ := hv
      obtain ⟨tb, toff, hat, hcs⟩ := htcell'.out (by omega)
      subst hat
      have hcs2 := hcs j h1
      have hrg := htr'.out (ts[j]?.getD (0, 0)) (by rw [List.getElem?_eq_getElem h1]; exact List.getElem_mem h1)
      obtain ⟨⟨ta, tx⟩, htj⟩ : ∃ t, ts[j]?.getD (0, 0) = t := ⟨_, rfl⟩
      rw [htj] at hcs2 hrg
      simp only at hcs2 hrg
      have hca := keep_cell hbr (Nat.le_refl _) hcs2.1
      have hcx := keep_cell hbr (Nat.le_refl _) hcs2.2
      obtain ⟨⟨hr1, hr2⟩, hr3⟩ := hrg
      obtain ⟨k, hk, hkk⟩ := place_in ta L h3 (by omega)
      have Hk := Lib.hid hkk
      clear hkk hcs htcell' hcs2 htj
      have hxr : 0 ≤ tx ∧ tx < 256 := hr3
      have hE : turnedE (L : Int) (k : Int) = 0 := by unfold turnedE; rw [if_neg (by omega)]
      have HE := Lib.hid hE
      clear hE
      go_wp2_with fail
      rw [Hk.out]
      refine (turned_any (L : Int) (k : Int) tx _ hxr (by omega) (by omega) (ht.below hbr)).mono ?_
      rintro e wt ⟨rfl, hb⟩
      rw [HE.out]
      have hbt := below_then hbr hb
      replace hor := hor.below hb
      have hcx2 := keep_cell hb (Nat.le_refl _) hcx
      clear hca hcx hb hbr hor2
      have hz := turned_zero L k tx hk hxr
      have hs := sum_turned xs k tx (by rw [hlen.out]; exact hk) hor.2 hxr
      rw [hlen.out] at hs
      have hkc := hor.cell k (by rw [hlen.out]; exact hk)
      have hkf := hor.free k
      have hset := hor.set k (by rw [hlen.out]; exact hk) (x8 (xs[k]?.getD 0) tx) (x8_byte _ _ (by rw [List.getElem?_eq_getElem (by rw [hlen.out]; exact hk)]; exact hor.2 _ (List.getElem_mem _)) hxr)
      generalize hcv : xs[k]?.getD 0 = c at hkc hset hs
      have Hset := Lib.hid hset
      have Hs := Lib.hid hs
      clear hset hs hcv
      generalize htd : turnedI (L : Int) (k : Int) tx = td at hz Hs ⊢
      have hz2 : ((td == 0) == (tx == 0)) = true := by rw [hz]; simp
      clear hz htd
      go_wp2_with fail
      go_region
      clear hz2 hkc hkf hcx2
      have hb5 : Below w.heap.size w _ := (hbt.setCell (p := ⟨g, k, none⟩) (by show w.heap.size ≤ g; omega) (.int .u8 (x8 c tx))).drew
      have ho5 := OB.drew' Hset.out
      have hl5 : (xs.set k (x8 c tx)).length = L := by rw [List.length_set]; exact hlen.out
      have Hl5 := Lib.hid hl5
      clear hl5 Hset
      have he8 : bits .xor .u8 c tx = x8 c tx := rfl
      rw [he8]
      generalize x8 c tx = c2 at Hs Hl5 hb5 ho5 ⊢
      clear he8
      generalize hys : xs.set k c2 = ys at Hs Hl5 ho5
      clear hys hor hbt
      generalize hw5 : (wt.setCell ⟨g, k, none⟩ (.int .u8 c2)).drew = w5 at hb5 ho5 ⊢
      clear hw5
      have hrd := ho5.reads
      go_wp2_with fail
      rw [Hs.out]
      refine (of_b _ [ys] _ ?_ ?_).mono ?_
      · exact RBs.one (heap_top _ _ _ rfl) (by decide) (hrd.below (below_alloc (Below.refl _ _) _))
      · exact ht.below (below_alloc hb5 _)
      rintro e w6 ⟨rfl, hb⟩
      rw [show [ys].flatten = ys by simp]
      have hb6 := below_then (below_alloc hb5 _) hb
      have hq := below_then (below_alloc (Below.refl _ _) _) hb
      replace ho5 := ho5.below hq
      clear hb hb5 hq hrd Hs
      go_wp2_with fail
      go_roundw
      case rel => exact ⟨j + 1, ys, by omega, by go_num, rfl, ⟨Hl5.out⟩, ho5, hb6⟩
      case measure => simp [intOf]; omega
    · have hfin : j < ts.length → ¬ j < 20 ∨ ¬ 0 < L := fun h => by
        by_cases h2 : j < 20
        · exact Or.inr fun h3 => hgo ⟨h, h2, h3⟩
        · exact Or.inl h2
      clear hgo
      by_cases h1 : j < ts.length
      · rcases hfin h1 with h2 | h2
        all_goals
          clear hfin
          go_wp2_with fail
          all_goals
            refine (of_b _ [xs] _ ?_ ?_).mono ?_
            · exact RBs.one (heap_top _ _ _ rfl) (by decide) (hor2.below (below_alloc (Below.refl _ _) _))
            · exact ht.below (below_alloc hbr _)
            rintro e w6 ⟨rfl, hb⟩
            rw [show [xs].flatten = xs by simp]
            have hb6 := below_then (below_alloc hbr _) hb
            go_wp2_with fail
            go_ret
            exact ⟨by simp, hb6⟩
      · clear hfin
        go_wp2_with fail
        refine (of_b _ [xs] _ ?_ ?_).mono ?_
        · exact RBs.one (heap_top _ _ _ rfl) (by decide) (hor2.below (below_alloc (Below.refl _ _) _))
        · exact ht.below (below_alloc hbr _)
        rintro e w6 ⟨rfl, hb⟩
        rw [show [xs].flatten = xs by simp]
        have hb6 := below_then (below_alloc hbr _) hb
        go_wp2_with fail
        go_ret
        exact ⟨by simp, hb6⟩
end Go.Proofs.YtblfmofhfbbmdaaDoor
