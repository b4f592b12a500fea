/- What the helpers of wicketlaw01 come to: Own, Roomy, Held, Turn, roomySizes, heldSizes. -/
import Derived.Test.YtblfmofhfbbmdaaApart
import Derived.Test.YtblfmofhfbbmdaaNums
import Derived.BigQuiet
set_option linter.unusedVariables false
set_option linter.unusedSimpArgs false
namespace Go.Proofs.Ytblfmofhfbbmdaa
open Go.RowKit

set_option maxHeartbeats 1000000 in
theorem own_any (v : Value) (xs : List Int) (w : World) (hv : RBy w v xs) (hxl : xs.length ≤ 140737488355328) :
    Calls Try.prog 21 #[v] w fun e w' => ∃ v', e = .returned v' ∧ OB w' w.heap.size v' xs ∧ Below w.heap.size w w' := by
  have hd1 := Lib.hid (below_alloc (Below.refl w.heap.size w) (.cells #[] 5))
  have hob := Lib.hid (own_bare w)
  have hv0 := Lib.hid (hv.below hd1.out)
  have hl0 := Lib.hid (show ([] : List Int).length + xs.length ≤ 140737488355328 by simpa using hxl)
  have hsz := Lib.hid hd1.out.size
  obtain ⟨A, c, rfl, hc⟩ := hv.form
  clear hv
  go_enter Try.func21, Try.ntmps21
  go_wp2_with (at_builtin; refine wpList_app rfl (.tmp 3) (.tmp 4) 23 rfl Try.underlying23 oinfo5 w.heap.size _ _ [] xs rfl rfl hob.out hv0.out hl0.out hsz.out ?_; intro v1 w1 ho1 hg1 _; have hd2 := Lib.hid (below_grown hd1.out hob.out (Nat.le_refl _) hg1); replace ho1 := Lib.hid ho1; clear hg1)
  go_ret
  exact ⟨_, rfl, ho1.out, hd2.out⟩

/-- The beginning of a row. -/
theorem OB.front {w : World} {base g n m cap : Nat} {xs ys : List Int} (h : OB w base (.slice (some ⟨g, 0, none⟩) m cap) (xs ++ ys)) (hn : xs.length = n) : OB w base (.slice (some ⟨g, 0, none⟩) n cap) xs := by
  subst hn
  obtain ⟨⟨h1, h2⟩, hb⟩ := h
  rcases h2 with ⟨e, h0⟩ | ⟨g', cap', cur, e, hg, hh, hn, hm, hs, ht⟩
  · cases e
  · simp only [Value.slice.injEq, Option.some.injEq, Addr.mk.injEq] at e
    obtain ⟨⟨rfl, _⟩, rfl, rfl⟩ := e
    refine ⟨⟨by simp [bytes], Or.inr ⟨g, cap, cur, rfl, hg, hh, by simp at hn; omega, hm, hs, ?_⟩⟩, fun x hx => hb x (by simp [hx])⟩
    rw [Nat.mul_one] at *
    have h8 := congrArg (List.take xs.length) ht
    rw [List.take_take, Nat.min_eq_left (by simp), bytes_append, List.take_left' (by simp [bytes])] at h8
    exact h8

set_option maxHeartbeats 1000000 in
theorem roomy_any (v : Value) (xs : List Int) (w : World) (hv : RBy w v xs) (hxl : xs.length ≤ 140737488355320) :
    Calls Try.prog 18 #[v] w fun e w' => ∃ g c, e = .returned (.slice (some ⟨g, 0, none⟩) xs.length c) ∧ xs.length + 2 ≤ c ∧ OB w' w.heap.size (.slice (some ⟨g, 0, none⟩) (xs.length + 2) c) (xs ++ [90, 165]) ∧ Below w.heap.size w w' := by
  obtain ⟨A, c, rfl, hc⟩ := hv.form
  go_enter Try.func18, Try.ntmps18
  go_wp2_with first
    | (go_at_call 21; refine (own_any _ xs _ hv (by omega)).mono ?_; rintro e w1 ⟨v1, rfl, ho1, hb1⟩; have Hbx := Lib.hid (RBy.lit (t := 5) (fr := (0, 0)) [90, 165] (heap_top w1 (.cells #[.int .u8 90, .int .u8 165] 5) w1.heap.size rfl) rfl (by decide) rfl (by decide)); have Ho1 := Lib.hid (ho1.below (below_alloc (Below.refl _ w1) (.cells #[.int .u8 90, .int .u8 165] 5))); have Hl := Lib.hid (show xs.length + [(90 : Int), 165].length ≤ 140737488355328 by simp; omega); have Hs := Lib.hid (show w.heap.size ≤ (w1.alloc (.cells #[.int .u8 90, .int .u8 165] 5)).heap.size by have := hb1.size; simp; omega); replace hb1 := Lib.hid hb1; clear ho1)
    | (at_builtin; refine wpList_app rfl (.tmp 4) (.tmp 5) 23 rfl Try.underlying23 oinfo5 w.heap.size _ _ xs [90, 165] rfl rfl Ho1.out Hbx.out Hl.out Hs.out ?_; intro v2 w2 ho2 hg2 _; have hb2 := Lib.hid (below_grown (below_alloc hb1.out (.cells #[.int .u8 90, .int .u8 165] 5)) Ho1.out (Nat.le_refl _) hg2); obtain ⟨g, cap, rfl, -, hcap, -, -⟩ := ho2.form (by simp); rw [List.length_append] at ho2 hcap ⊢; simp only [List.length_cons, List.length_nil] at ho2 hcap ⊢; replace ho2 := Lib.hid ho2; clear hg2)
  go_ret
  exact ⟨_, _, rfl, hcap, ho2.out, hb2.out⟩

/-- A byte turned. -/
def flip (x : Int) : Int := bits .xor .u8 x 1
theorem flip_range (x : Int) : 0 ≤ flip x ∧ flip x < 256 := by
  have h : ∀ y : Int, 0 ≤ IntKind.u8.wrap y ∧ IntKind.u8.wrap y < 256 := fun y => by
    simp [IntKind.wrap, IntKind.bits, IntKind.signed]; omega
  exact h _
def flipped (xs : List Int) (t : Nat) : List Int := (xs.take t).map flip ++ xs.drop t
theorem flipped_length (xs : List Int) (t : Nat) : (flipped xs t).length = xs.length := by simp [flipped]; omega
theorem flipped_get (xs : List Int) (t : Nat) (h : t < xs.length) : (flipped xs t)[t]?.getD 0 = xs[t]?.getD 0 := by
  rw [flipped, List.getElem?_append_right (by simp; omega), List.getElem?_drop]
  congr 2
  simp; omega
theorem flipped_set (xs : List Int) (t : Nat) (h : t < xs.length) : (flipped xs t).set t (flip (xs[t]?.getD 0)) = flipped xs (t + 1) := by
  apply List.ext_getElem?
  intro i
  rw [List.getElem?_set, flipped_length]
  by_cases hi : t = i
  · subst hi
    rw [if_pos rfl, if_pos h, flipped, List.getElem?_append_left (by simp; omega)]
    simp [h]
  · rw [if_neg hi]
    by_cases hlt : i < t
    · rw [flipped, flipped, List.getElem?_append_left (by simp; omega), List.getElem?_append_left (by simp; omega)]
      simp [List.getElem?_take, hlt, show i < t + 1 by omega]
    · rw [flipped, flipped, List.getElem?_append_right (by simp; omega), List.getElem?_append_right (by simp; omega), List.getElem?_drop, List.getElem?_drop]
      congr 1
      simp; omega
theorem flipped_zero (xs : List Int) : flipped xs 0 = xs := by simp [flipped]
theorem flipped_full (xs : List Int) : flipped xs xs.length = xs.map flip := by simp [flipped]

set_option maxHeartbeats 1000000 in
/-- Turn: each byte turned, where it stands. -/
theorem turn_any (v : Value) (xs : List Int) (w : World) (base : Nat) (hv : OB w base v xs) (hnm : xs.length ≤ 9223372036854775806) (hbase : base ≤ w.heap.size) :
    Calls Try.prog 20 #[v] w fun e w' => e = .returned (.tuple #[]) ∧ OB w' base v (xs.map flip) ∧ w.grownBy w' v.ownBlock := by
  obtain ⟨A, c, rfl, hc⟩ := hv.reads.form
  have hstart : Hid (OB w base (.slice A xs.length c) (flipped xs 0) ∧ w.grownBy w (Value.ownBlock (.slice A xs.length c))) := ⟨by rw [flipped_zero]; exact hv, ⟨rfl, rfl, rfl, Nat.le_refl _, fun _ _ _ => rfl⟩⟩
  clear hv
  go_enter Try.func20, Try.ntmps20
  go_wp2
  go_loopw [2] (fun i wr => ∃ t : Nat, i = .int .i64 (t : Int) ∧ t ≤ xs.length ∧ Hid (OB wr base (.slice A xs.length c) (flipped xs t) ∧ w.grownBy wr (Value.ownBlock (.slice A xs.length c)))) (fun i _ => xs.length - (intOf i).toNat)
  case atStart => exact ⟨0, rfl, Nat.zero_le _, hstart⟩
  case round =>
    clear hstart
    obtain ⟨t, rfl, ht, H⟩ := hrel
    by_cases hlt : t < xs.length
    · obtain ⟨g, cap, ev, -, -, -, hob⟩ := H.out.1.form (by rw [flipped_length]; omega)
      simp only [Value.slice.injEq] at ev
      obtain ⟨rfl, -, rfl⟩ := ev
      have hcl := H.out.1.cell t (by rw [flipped_length]; omega)
      rw [flipped_get xs t hlt] at hcl
      have hfree := H.out.1.free t
      have hset := H.out.1.set t (by rw [flipped_length]; omega) (flip (xs[t]?.getD 0)) (flip_range _)
      rw [flipped_set xs t hlt] at hset
      have Hset := Lib.hid hset
      have Hg := H.out.2
      have Hgr : Hid (∀ u, w.grownBy (wr.setCell ⟨g, t, none⟩ u) (some g)) := fun u => by
        rw [hob] at Hg
        exact World.grownBy.trans Hg ⟨rfl, rfl, rfl, by simp, fun k hk hne => heap_setCell_other wr ⟨g, t, none⟩ k u (fun e => hne (by simp [e]))⟩
      clear H hset Hg
      generalize xs[t]?.getD 0 = x0 at hcl Hset
      go_wp2
      go_roundw
      case rel => exact ⟨t + 1, by go_num, by omega, Hset.out, Hgr.out _⟩
      case measure => simp [intOf]; omega
    · obtain e : t = xs.length := by omega
      subst e
      go_wp2
      go_end0
      exact ⟨rfl, by rw [← flipped_full]; exact H.out.1, H.out.2⟩

/-! ### Held -/
set_option maxHeartbeats 2000000 in
theorem held_any (g n c : Nat) (u : Value) (xs : List Int) (w : World) (hv : RBy w (.slice (some ⟨g, 0, none⟩) (n + 2) c) (xs ++ [90, 165])) (hn : xs.length = n) (hc : n + 2 ≤ c) (hu : RBy w u xs) :
    Calls Try.prog 19 #[.slice (some ⟨g, 0, none⟩) n c, u] w fun e w' => e = .returned (.bool true) ∧ Below w.heap.size w w' := by
  obtain ⟨A, cu, rfl, hcu⟩ := hu.form
  have hnm : n + 2 ≤ 9223372036854775807 := by
    obtain ⟨_, _, _, _, h9, _⟩ := hv
    simp at h9; omega
  have hfront : RBy w (.slice (some ⟨g, 0, none⟩) n c) xs := by
    have := hv.first (m := n) (by simp; omega)
    rwa [List.take_left' hn] at this
  have hdn : ∀ k, Below w.heap.size w (w.drewN k) := fun k => below_drewN (Below.refl _ _) k
  have k1 := fun k => conv_str (hfront.below (hdn k))
  have k2 := fun k => conv_str (hu.below (hdn k))
  have k3 : w.cell? ⟨g, n, none⟩ = some (.int .u8 90) := by
    obtain ⟨A', c', e, -, -, -, -, h5⟩ := hv
    simp only [Value.slice.injEq] at e
    obtain ⟨ad, e2, h6⟩ := h5 (by simp)
    rw [e2] at e
    obtain ⟨e3, -, -⟩ := e
    cases e3
    have := h6 n (by simp; omega)
    rw [add_plain, List.getElem?_append_right (by omega), hn] at this
    simpa using this
  have k4 : w.cell? ⟨g, n + 1, none⟩ = some (.int .u8 165) := by
    obtain ⟨A', c', e, -, -, -, -, h5⟩ := hv
    simp only [Value.slice.injEq] at e
    obtain ⟨ad, e2, h6⟩ := h5 (by simp)
    rw [e2] at e
    obtain ⟨e3, -, -⟩ := e
    cases e3
    have := h6 (n + 1) (by simp; omega)
    rw [add_plain, List.getElem?_append_right (by omega), hn] at this
    simpa using this
  have hsum : IntKind.i64.wrap ((n : Int) + 1) = (n : Int) + 1 := by simp [IntKind.wrap, IntKind.bits, IntKind.signed]; omega
  have hto : ((n : Int) + 1).toNat = n + 1 := by omega
  rw [hn] at k2 hu hcu ⊢
  have hnc : n ≤ c := by omega
  have Hdn := Lib.hid hdn
  clear hv hu hfront hdn
  go_enter Try.func19, Try.ntmps19
  go_wp2
  go_quiet (fail)
  go_wp2
  go_ret
  exact ⟨by simp, Hdn.out _⟩

/-! ### The sizes -/
theorem oi_bare (k : IntKind) (e : TypeId) (w : World) : OI k e (w.alloc (.cells #[] e)) w.heap.size (.slice (some ⟨w.heap.size, 0, none⟩) 0 0) [] := World.ownsRow_made w #[] 0 (Nat.le_refl _) (by simp [maxLen]) (by simp)
theorem RI.form {k : IntKind} {w : World} {v : Value} {xs : List Int} (h : RI k w v xs) : ∃ A c, v = .slice A xs.length c ∧ xs.length ≤ c := by
  obtain ⟨A, c, e, h2, _⟩ := h
  exact ⟨A, c, e, h2⟩
theorem info3 : (Try.prog.info? 3).map (fun i => (i.zero, i.size, i.bytes)) = some (some (.int .i64 0), 1, 8) := by kernel_rfl
section
variable {P : Program} {w : World} {ops : Array Oper} {rest : List Oper} {o : Oper} {a : Act} {Q : Exit → Act → World → Prop}
/-- append(v, u...) of numbers: whatever the source, nil too. -/
theorem wpList_appI (hgd : o.guard = none) (s x : Operand) (t e : TypeId) (k : IntKind) (bts : Nat)
    (ho : o.op = .call { callee := .builtin .append, args := #[s, x], argTypes := #[t, t] })
    (ht : P.underlying t = some (.slice e)) (hinfo : (P.info? e).map (fun i => (i.zero, i.size, i.bytes)) = some (some (.int k 0), 1, bts)) (hb0 : 0 < bts)
    (base : Nat) (v u : Value) (xs ys : List Int) (hs : a.eval s = v) (hx : a.eval x = u) (hown : OI k e w base v xs) (hr : RI k w u ys)
    (hlen : (xs.length + ys.length) * bts ≤ 140737488355328) (hbase : base ≤ w.heap.size)
    (h : ∀ v' w', OI k e w' base v' (xs ++ ys) → w.grownBy w' v.ownBlock → wpList P ops Q rest (a.put o.dst v') w') :
    wpList P ops Q (o :: rest) a w := by
  obtain ⟨i0, hi, hzz⟩ := Option.map_eq_some_iff.1 hinfo
  simp only [Prod.mk.injEq] at hzz
  obtain ⟨hz0, hz1, hz2⟩ := hzz
  have h2 : xs.length + ys.length ≤ 140737488355328 := Nat.le_trans (Nat.le_mul_of_pos_right _ hb0) hlen
  obtain ⟨A, c, rfl, hc, hl, hA, hcell⟩ := hr
  cases A with
  | none =>
    have hy : ys = [] := by
      cases ys with
      | nil => rfl
      | cons y ys => obtain ⟨ad, e, _⟩ := hcell (by simp); cases e
    subst hy
    have hc0 := hA rfl
    subst hc0
    refine wpList_append_own_none hgd s x t ho base e i0 1 ht hi v xs.length (nums k xs) hs hown hx ?_
    exact h v w (by rw [List.append_nil]; exact hown) ⟨rfl, rfl, rfl, Nat.le_refl _, fun _ _ _ => rfl⟩
  | some ad =>
    refine wpList_append_own_at _ hgd s x t ho base e i0 (.int k 0) 1 bts ht hi hz0 hz1 hz2 rfl (by decide) v xs.length (nums k xs) hs hown ad ys.length c (nums k ys) hx (by simp [nums]) (fun j u hj => ?_) (fun u hu => ?_) (by simp only [maxLen]; omega) hlen hbase ?_
    · have hjl : j < ys.length := by
        have := (List.getElem?_eq_some_iff.1 hj).1
        simpa [nums] using this
      obtain ⟨ad', e, hcs⟩ := hcell (by omega)
      cases e
      rw [nums_get k ys j hjl] at hj
      cases hj
      exact hcs j hjl
    · simp only [nums, List.mem_map] at hu
      obtain ⟨z, _, rfl⟩ := hu
      rfl
    · intro v' w' ho' hg _ hat
      exact h v' w' (by unfold OI; rw [nums_append, List.length_append]; exact ho') hg
end
theorem below_grownI' {k : IntKind} {e : TypeId} {w W w1 : World} {v : Value} {xs : List Int} (hb : Below w.heap.size w W) (ho : OI k e W w.heap.size v xs) (hg : W.grownBy w1 v.ownBlock) : Below w.heap.size w w1 :=
  below_grownI hb ho (Nat.le_refl _) hg

set_option maxHeartbeats 1000000 in
theorem roomySizes_any (v : Value) (xs : List Int) (w : World) (hv : RI .i64 w v xs) (hxl : xs.length * 8 ≤ 140737488355280) :
    Calls Try.prog 23 #[v] w fun e w' => ∃ g c, e = .returned (.slice (some ⟨g, 0, none⟩) xs.length c) ∧ xs.length + 2 ≤ c ∧ OI .i64 3 w' w.heap.size (.slice (some ⟨g, 0, none⟩) (xs.length + 2) c) (xs ++ [77, 78]) ∧ Below w.heap.size w w' := by
  have hd1 := Lib.hid (below_alloc (Below.refl w.heap.size w) (.cells #[] 3))
  have hob := Lib.hid (oi_bare .i64 3 w)
  have hv0 := Lib.hid (hv.below hd1.out)
  have hl0 := Lib.hid (show (([] : List Int).length + xs.length) * 8 ≤ 140737488355328 by simp; omega)
  have hsz := Lib.hid hd1.out.size
  obtain ⟨A, c, rfl, hc⟩ := hv.form
  clear hv
  go_enter Try.func23, Try.ntmps23
  go_wp2_with first
    | (at_builtin; refine wpList_appI rfl (.tmp 3) (.tmp 4) 45 3 .i64 8 rfl Try.underlying45 info3 (by decide) w.heap.size _ _ [] xs rfl rfl hob.out hv0.out hl0.out hsz.out ?_; intro v1 w1 ho1 hg1; have hb1 := Lib.hid (below_grownI' hd1.out hob.out hg1); have Hbx := Lib.hid (RI.lit (k := .i64) (t := 3) (fr := (0, 0)) (n := 2) (c := 2) [77, 78] (heap_top w1 (.cells #[.int .i64 77, .int .i64 78] 3) w1.heap.size rfl) rfl rfl (by decide) (by decide)); have Ho1 := Lib.hid (ho1.below (below_alloc (Below.refl _ w1) (.cells #[.int .i64 77, .int .i64 78] 3))); have Hl := Lib.hid (show (([] ++ xs).length + [(77 : Int), 78].length) * 8 ≤ 140737488355328 by simp; omega); have Hs := Lib.hid (show w.heap.size ≤ (w1.alloc (.cells #[.int .i64 77, .int .i64 78] 3)).heap.size by have := hb1.out.size; simp; omega); clear ho1 hg1)
    | (at_builtin; refine wpList_appI rfl (.tmp 5) (.tmp 6) 45 3 .i64 8 rfl Try.underlying45 info3 (by decide) w.heap.size _ _ ([] ++ xs) [77, 78] rfl rfl Ho1.out Hbx.out Hl.out Hs.out ?_; intro v2 w2 ho2 hg2; have hb2 := Lib.hid (below_grownI' (below_alloc hb1.out (.cells #[.int .i64 77, .int .i64 78] 3)) Ho1.out hg2); obtain ⟨g, cap, rfl, -, hcap, -, -⟩ := ho2.form (by simp); rw [List.nil_append, List.length_append] at ho2 hcap ⊢; simp only [List.length_cons, List.length_nil] at ho2 hcap ⊢; replace ho2 := Lib.hid ho2; clear hg2)
  go_ret
  exact ⟨_, _, rfl, hcap, ho2.out, hb2.out⟩
end Go.Proofs.Ytblfmofhfbbmdaa
