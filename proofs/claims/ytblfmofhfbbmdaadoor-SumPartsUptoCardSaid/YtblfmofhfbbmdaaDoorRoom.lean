/- What wicketlaw02's Roomy and Whole come to. -/
import Derived.Test.YtblfmofhfbbmdaaDoorFixed
import Derived.Test.YtblfmofhfbbmdaaDoorStr
set_option linter.unusedVariables false
set_option linter.unusedSimpArgs false
namespace Go.Proofs.YtblfmofhfbbmdaaDoor
open Go.RowKit

/-- The beginning of a row. -/
theorem OB.front {w : World} {base g n m cap : Nat} {xs ys : List Int} (h : OB w base (.slice (some ⟨g, 0, none⟩) m cap) (xs ++ ys)) (hn : xs.length = n) : OB w base (.slice (some ⟨g, 0, none⟩) n cap) xs := by
  subst hn
  obtain ⟨⟨h1, h2⟩, hb⟩ := h
  rcases h2 with ⟨e, h0⟩ | ⟨g', cap', cur, e, hg, hh, hn, hm, hs, ht⟩
  · cases e
  · simp only [Value.slice.injEq, Option.some.injEq, Addr.mk.injEq] at e
    obtain ⟨⟨rfl, _⟩, rfl, rfl⟩ := e
    refine ⟨⟨by simp [bytes], Or.inr ⟨g, cap, cur, rfl, hg, hh, by simp at hn; omega, hm, hs, ?_⟩⟩, fun x hx => hb x (by simp [hx])⟩
    rw [Nat.mul_one] at *
    have h8 := congrArg (List.take xs.length) ht
    rw [List.take_take, Nat.min_eq_left (by simp), bytes_append, List.take_left' (by simp [bytes])] at h8
    exact h8

set_option maxHeartbeats 1000000 in
theorem roomy_any (v : Value) (xs : List Int) (w : World) (hv : RBy w v xs) (hxl : xs.length ≤ 140737488355320) :
    Calls Tryd.prog 25 #[v] w fun e w' => ∃ g c, e = .returned (.slice (some ⟨g, 0, none⟩) xs.length c) ∧ xs.length + 3 ≤ c ∧ OB w' w.heap.size (.slice (some ⟨g, 0, none⟩) (xs.length + 3) c) (xs ++ [77, 78, 79]) ∧ Below w.heap.size w w' := by
  have hd1 := Lib.hid (below_alloc (Below.refl w.heap.size w) (.cells #[] 5))
  have hob := Lib.hid (own_bare w)
  have hv0 := Lib.hid (hv.below hd1.out)
  have hl0 := Lib.hid (show ([] : List Int).length + xs.length ≤ 140737488355328 by simp; omega)
  have hsz := Lib.hid hd1.out.size
  obtain ⟨A, c, rfl, hc⟩ := hv.form
  clear hv
  go_enter Tryd.func25, Tryd.ntmps25
  go_wp2_with first
    | (at_builtin; refine wpList_app rfl (.tmp 3) (.tmp 4) 25 rfl Tryd.underlying25 oinfo5 w.heap.size _ _ [] xs rfl rfl hob.out hv0.out hl0.out hsz.out ?_; intro v1 w1 ho1 hg1 _; rw [List.nil_append] at ho1; have hb1 := Lib.hid (below_grown hd1.out hob.out (Nat.le_refl _) hg1); have Hbx := Lib.hid (RBy.lit (t := 5) (fr := (0, 0)) [77, 78, 79] (heap_top w1 (.cells #[.int .u8 77, .int .u8 78, .int .u8 79] 5) w1.heap.size rfl) rfl (by decide) rfl (by decide)); have Ho1 := Lib.hid (ho1.below (below_alloc (Below.refl _ w1) (.cells #[.int .u8 77, .int .u8 78, .int .u8 79] 5))); have Hl := Lib.hid (show xs.length + [(77 : Int), 78, 79].length ≤ 140737488355328 by simp; omega); have Hs := Lib.hid (show w.heap.size ≤ (w1.alloc (.cells #[.int .u8 77, .int .u8 78, .int .u8 79] 5)).heap.size by have := hb1.out.size; simp; omega); clear ho1 hg1)
    | (at_builtin; refine wpList_app rfl (.tmp 5) (.tmp 6) 25 rfl Tryd.underlying25 oinfo5 w.heap.size _ _ xs [77, 78, 79] rfl rfl Ho1.out Hbx.out Hl.out Hs.out ?_; intro v2 w2 ho2 hg2 _; have hb2 := Lib.hid (below_grown (below_alloc hb1.out (.cells #[.int .u8 77, .int .u8 78, .int .u8 79] 5)) Ho1.out (Nat.le_refl _) hg2); obtain ⟨g, cap, rfl, -, hcap, -, -⟩ := ho2.form (by simp); rw [List.length_append] at ho2 hcap ⊢; simp only [List.length_cons, List.length_nil] at ho2 hcap ⊢; replace ho2 := Lib.hid ho2; clear hg2)
  go_ret
  exact ⟨_, _, rfl, hcap, ho2.out, hb2.out⟩

/-- The byte at j. -/
theorem RBy.byte {w : World} {g n c : Nat} {xs : List Int} (h : RBy w (.slice (some ⟨g, 0, none⟩) n c) xs) (j : Nat) (hj : j < xs.length) : w.cell? ⟨g, j, none⟩ = some (.int .u8 (xs[j]?.getD 0)) := by
  obtain ⟨A, c', e, -, -, -, -, h5⟩ := h
  simp only [Value.slice.injEq] at e
  obtain ⟨rfl, -, -⟩ := e
  obtain ⟨ad', e', hc⟩ := h5 (by omega)
  cases e'
  have := hc j hj
  rwa [add_plain] at this
set_option maxHeartbeats 2000000 in
theorem whole_any (g n c : Nat) (u : Value) (xs : List Int) (w : World) (hv : RBy w (.slice (some ⟨g, 0, none⟩) (n + 3) c) (xs ++ [77, 78, 79])) (hn : xs.length = n) (hc : n + 3 ≤ c) (hu : RBy w u xs) :
    Calls Tryd.prog 27 #[.slice (some ⟨g, 0, none⟩) n c, u] w fun e w' => e = .returned (.bool true) ∧ w = w' := by
  obtain ⟨A, cu, rfl, hcu⟩ := hu.form
  have hnm : n + 3 ≤ 9223372036854775807 := by
    obtain ⟨_, _, _, _, h9, _⟩ := hv
    simp at h9; omega
  have hfront : RBy w (.slice (some ⟨g, 0, none⟩) n c) xs := by
    have := hv.first (m := n) (by simp; omega)
    rwa [List.take_left' hn] at this
  have k1 := conv_str hfront
  have k2 := conv_str hu
  have k3 := hv.byte n (by simp; omega)
  have k4 := hv.byte (n + 1) (by simp; omega)
  have k5 := hv.byte (n + 2) (by simp; omega)
  rw [List.getElem?_append_right (by omega), hn, show n - n = 0 by omega] at k3
  rw [List.getElem?_append_right (by omega), hn, show n + 1 - n = 1 by omega] at k4
  rw [List.getElem?_append_right (by omega), hn, show n + 2 - n = 2 by omega] at k5
  simp only [List.getElem?_cons_zero, List.getElem?_cons_succ, Option.getD_some] at k3 k4 k5
  rw [hn] at k2 hcu ⊢
  clear hv hu hfront
  have hnc : n ≤ c := by omega
  go_enter Tryd.func27, Tryd.ntmps27
  go_wp2
  go_ret
  exact ⟨by simp, rfl⟩
end Go.Proofs.YtblfmofhfbbmdaaDoor
