/- The reference's bytes of a record: put, number, Encode. -/
import Derived.Test.YtblfmofhfbbmdaaDoorRec2
import Derived.Test.YtblfmofhfbbmdaaDoorRec5
import Derived.Test.YtblfmofhfbbmdaaDoorRefSum
import Derived.Test.YtblfmofhfbbmdaaDoorNums
set_option linter.unusedVariables false
set_option linter.unusedSimpArgs false
namespace Go.Proofs.YtblfmofhfbbmdaaDoor
open Go.RowKit Crc

theorem IsB.at' {xs : List Int} (h : IsB xs) (j : Nat) : 0 ≤ xs[j]?.getD 0 ∧ xs[j]?.getD 0 < 256 := by
  by_cases hj : j < xs.length
  · rw [List.getElem?_eq_getElem hj]; exact h _ (List.getElem_mem hj)
  · rw [List.getElem?_eq_none (by omega)]; decide
/-- The list with k bytes of n written from a on. -/
def putN (xs : List Int) (a k : Nat) (n : Int) : List Int := xs.take a ++ (le k n ++ xs.drop (a + k))
theorem putN_length {xs : List Int} {a k : Nat} {n : Int} (h : a + k ≤ xs.length) : (putN xs a k n).length = xs.length := by
  simp [putN, le_length]; omega
theorem putN_zero (xs : List Int) (a : Nat) (n : Int) : putN xs a 0 n = xs := by simp [putN, le]
theorem le_snoc (k : Nat) (n : Int) : le (k + 1) n = le k n ++ [n / 256 ^ k % 256] := by simp [le, List.range_succ]
theorem putN_set {xs : List Int} {a k : Nat} (n : Int) (h : a + k < xs.length) : (putN xs a k n).set (a + k) (n / 256 ^ k % 256) = putN xs a (k + 1) n := by
  unfold putN
  have h1 : (xs.take a).length = a := by simp; omega
  rw [List.set_append_right _ _ (by omega), h1, show a + k - a = k by omega, List.set_append_right _ _ (by simp [le_length]), le_length, Nat.sub_self, List.drop_eq_getElem_cons h, List.set_cons_zero, le_snoc, List.append_assoc]
  rfl

set_option maxHeartbeats 1000000 in
theorem rput_any (g m cap a s : Nat) (n : Int) (xs : List Int) (w : World) (base : Nat) (hv : OB w base (.slice (some ⟨g, 0, none⟩) m cap) xs) (hm : xs.length = m) (hn : 0 ≤ n ∧ n < 18446744073709551616) (hs : a + s ≤ m) (hml : m ≤ 1000) (hbase : base ≤ w.heap.size) :
    Calls Tryd.prog 68 #[.slice (some ⟨g, 0, none⟩) m cap, .int .i64 a, .int .u64 n, .int .i64 s] w fun e w' => e = .returned (.tuple #[]) ∧ OB w' base (.slice (some ⟨g, 0, none⟩) m cap) (putN xs a s n) ∧ w.grownBy w' (some g) := by
  have hstart : Hid (OB w base (.slice (some ⟨g, 0, none⟩) m cap) (putN xs a 0 n) ∧ w.grownBy w (some g)) := ⟨by rw [putN_zero]; exact hv, ⟨rfl, rfl, rfl, Nat.le_refl _, fun _ _ _ => rfl⟩⟩
  clear hv
  go_enter Tryd.func68, Tryd.ntmps68
  go_wp2
  go_loopw [2, 8] (fun nv i wr => ∃ t : Nat, i = .int .i64 (t : Int) ∧ t ≤ s ∧ nv = .int .u64 (n / 256 ^ t) ∧ Hid (OB wr base (.slice (some ⟨g, 0, none⟩) m cap) (putN xs a t n) ∧ w.grownBy wr (some g))) (fun _ i _ => s - (intOf i).toNat)
  case atStart => exact ⟨0, rfl, Nat.zero_le _, by simp, hstart⟩
  case round =>
    clear hstart
    obtain ⟨t, rfl, ht, rfl, H⟩ := hrel
    by_cases hlt : t < s
    · have hpl := putN_length (n := n) (show a + t ≤ xs.length by omega)
      have hcl := H.out.1.cell (a + t) (by rw [hpl]; omega)
      have hfree := H.out.1.free (a + t)
      have hset := H.out.1.set (a + t) (by rw [hpl]; omega) (n / 256 ^ t % 256) (by omega)
      rw [putN_set n (by omega)] at hset
      have Hset := Lib.hid hset
      have Hgr : Hid (∀ u, w.grownBy (wr.setCell ⟨g, a + t, none⟩ u) (some g)) := fun u =>
        World.grownBy.trans H.out.2 ⟨rfl, rfl, rfl, by simp, fun k hk hne => heap_setCell_other wr ⟨g, a + t, none⟩ k u (fun e => hne (by simp [e]))⟩
      have hps := Lib.hid (pow_step n t)
      have hpn : 0 ≤ n / 256 ^ t ∧ n / 256 ^ t < 18446744073709551616 := by
        have hp : (0 : Int) < 256 ^ t := Int.pow_pos (by decide)
        refine ⟨Int.ediv_nonneg hn.1 (by omega), Int.lt_of_le_of_lt (Int.ediv_le_self _ hn.1) hn.2⟩
      generalize hq : n / 256 ^ t = q at hpn hps Hset
      have Hq := Lib.hid hq
      generalize (putN xs a t n)[a + t]?.getD 0 = c0 at hcl
      clear hset H hpl hq
      go_wp2
      go_roundw
      case rel => exact ⟨t + 1, by go_num, by omega, by rw [hps.out], Hset.out, Hgr.out _⟩
      case measure => simp [intOf]; omega
    · obtain rfl : s = t := by omega
      go_wp2
      go_end0
      exact ⟨rfl, H.out.1, H.out.2⟩

set_option maxHeartbeats 1000000 in
theorem rnumber_any (v : Value) (a s : Nat) (xs : List Int) (w : World) (hv : RBy w v xs) (hs : a + s ≤ xs.length) (hl : xs.length ≤ 140737488355328) :
    Calls Tryd.prog 69 #[v, .int .i64 a, .int .i64 s] w fun e w' => e = .returned (.int .u64 (numU ((xs.drop a).take s))) ∧ w = w' := by
  obtain ⟨A', c', rfl, hc', hn', hb', hA', hcell'⟩ := hv
  go_enter Tryd.func69, Tryd.ntmps69
  go_wp2
  go_loop [7, 8] (fun nv i => ∃ j : Nat, j ≤ s ∧ i = .int .i64 ((j : Int) - 1) ∧ nv = .int .u64 (numU (((xs.drop a).take s).drop j))) (fun _ i => ((intOf i) + 1).toNat)
  case atStart => exact ⟨s, Nat.le_refl _, rfl, by rw [List.drop_of_length_le (by simp; omega)]; rfl⟩
  case round =>
    obtain ⟨j, hj, rfl, rfl⟩ := hrel
    by_cases h0 : 0 < j
    · obtain ⟨i, rfl⟩ : ∃ i, j = i + 1 := ⟨j - 1, by omega⟩
      have e1 : ((i + 1 : Nat) : Int) - 1 = (i : Int) := by omega
      rw [e1]
      obtain ⟨ad', rfl, hcs'⟩ := hcell' (by omega)
      have hx := hcs' (a + i) (by omega)
      have hxr : 0 ≤ xs[a + i]?.getD 0 ∧ xs[a + i]?.getD 0 < 256 := by
        rw [List.getElem?_eq_getElem (by omega)]; exact hb' _ (List.getElem_mem _)
      have hnr := numU_range (((xs.drop a).take s).drop (i + 1))
      have hd := numU_drop ((xs.drop a).take s) i (by simp; omega)
      have hg : ((xs.drop a).take s)[i]?.getD 0 = xs[a + i]?.getD 0 := by rw [List.getElem?_take, if_pos (by omega), List.getElem?_drop]
      rw [hg] at hd
      generalize numU (((xs.drop a).take s).drop (i + 1)) = q at hd hnr
      generalize xs[a + i]?.getD 0 = c at hx hxr hd
      have hw : IntKind.u64.wrap (IntKind.u64.wrap (256 * q) + c) = (256 * q + c) % 18446744073709551616 := by rw [wrap_u64, wrap_u64]; omega
      rw [← hw] at hd
      have Hd := Lib.hid hd
      clear hcell' hcs' hb' e1 hd hg hw
      go_wp2
      go_round
      case rel => exact ⟨i, by omega, rfl, by rw [Hd.out]⟩
      case measure => simp [intOf]
    · obtain rfl : j = 0 := by omega
      go_wp2
      go_ret
      exact ⟨rfl, rfl⟩
end Go.Proofs.YtblfmofhfbbmdaaDoor
