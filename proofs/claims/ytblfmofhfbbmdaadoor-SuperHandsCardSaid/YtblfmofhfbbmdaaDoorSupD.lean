/- The program's bytes of a superblock: Encode. -/
import Derived.Test.YtblfmofhfbbmdaaDoorSupC
set_option linter.unusedVariables false
set_option linter.unusedSimpArgs false
namespace Go.Proofs.YtblfmofhfbbmdaaDoor
open Go.RowKit Crc

/-- A slice onto which may be appended: one of the call's own, or a full one. -/
def AB (w : World) (base : Nat) (v : Value) (xs : List Int) : Prop := OB w base v xs ∨ ∃ g, base ≤ g ∧ g < w.heap.size ∧ v = .slice (some ⟨g, 0, none⟩) xs.length xs.length ∧ RBy w v xs
theorem AB.below {w w' : World} {base : Nat} {v : Value} {xs : List Int} (h : AB w base v xs) (hb : Below w.heap.size w w') : AB w' base v xs := by
  rcases h with h | ⟨g, h1, h2, h3, h4⟩
  · exact Or.inl (h.below hb)
  · exact Or.inr ⟨g, h1, Nat.lt_of_lt_of_le h2 hb.size, h3, h4.below hb⟩
theorem AB.blk {w : World} {base : Nat} {v : Value} {xs : List Int} (h : AB w base v xs) : ∀ k, v.ownBlock = some k → base ≤ k ∧ k < w.heap.size := by
  rcases h with h | ⟨g, h1, h2, rfl, h4⟩
  · exact h.blk
  · intro k hk
    cases hk
    exact ⟨h1, h2⟩
theorem below_grownA {w W w1 : World} {base : Nat} {v : Value} {xs : List Int} (hb : Below w.heap.size w W) (ho : AB W base v xs) (hbase : w.heap.size ≤ base) (hg : W.grownBy w1 v.ownBlock) : Below w.heap.size w w1 :=
  hb.grown hg hb.size (fun k hk => Nat.le_trans hbase (ho.blk k hk).1)
section
variable {P : Program} {w : World} {ops : Array Oper} {rest : List Oper} {o : Oper} {a : Act} {Q : Exit → Act → World → Prop}
theorem wpList_appU (hgd : o.guard = none) (s x : Operand) (t : TypeId)
    (ho : o.op = .call { callee := .builtin .append, args := #[s, x], argTypes := #[t, t] })
    (ht : P.underlying t = some (.slice 5)) (hinfo : (P.info? 5).map (fun i => (i.zero, i.size, i.bytes)) = some (some (.int .u8 0), 1, 1))
    (base : Nat) (v u : Value) (xs ys : List Int) (hs : a.eval s = v) (hx : a.eval x = u) (hv : AB w base v xs) (hr : RBy w u ys) (hy : 0 < ys.length)
    (hlen : xs.length + ys.length ≤ 140737488355328) (hbase : base ≤ w.heap.size)
    (h : ∀ v' w', OB w' base v' (xs ++ ys) → w.grownBy w' v.ownBlock → (v'.ownBlock = v.ownBlock ∨ ∃ b, v'.ownBlock = some b ∧ w.heap.size ≤ b) → wpList P ops Q rest (a.put o.dst v') w') :
    wpList P ops Q (o :: rest) a w := by
  rcases hv with hv | ⟨g, h1, h2, rfl, h4⟩
  · refine wpList_app hgd s x t ho ht hinfo base v u xs ys hs hx hv hr hlen hbase fun v' w' a1 a2 a3 => h v' w' a1 a2 ?_
    rcases a3 with a3 | a3
    · exact Or.inl a3
    · exact Or.inr ⟨_, a3, Nat.le_refl _⟩
  · refine wpList_appG hgd s x t ho ht hinfo (some ⟨g, 0, none⟩) u xs ys hs hx h4 hr hy hlen fun v' w' a1 a2 => h v' w' (a1.lower hbase) ⟨a2.os, a2.tape, a2.output, a2.size, fun k hk _ => a2.block k hk (by simp)⟩ ?_
    obtain ⟨b, hb1, hb2⟩ : ∃ b, v'.ownBlock = some b ∧ w.heap.size ≤ b := by
      obtain ⟨g', cap, e, hg', -, -, hown⟩ := a1.form (by simp; omega)
      exact ⟨g', hown, hg'⟩
    exact Or.inr ⟨b, hb1, hb2⟩
end

def valsL (s : Sup) : List Int := [1, 0, s.b, s.l, s.m, s.h, s.c, 0, s.t, s.f]
/-- What stands after k numbers. -/
def preL (s : Sup) (k : Nat) : List Int := magicL ++ ((List.range k).map fun i => le (widthsN[i]?.getD 0) ((valsL s)[i]?.getD 0)).flatten
theorem preL_zero (s : Sup) : preL s 0 = magicL := by simp [preL]
theorem preL_succ (s : Sup) (k : Nat) : preL s (k + 1) = preL s k ++ le (widthsN[k]?.getD 0) ((valsL s)[k]?.getD 0) := by
  simp [preL, List.range_succ]
theorem preL_length (s : Sup) (k : Nat) (h : k ≤ 10) : (preL s k).length ≤ 100 := by
  induction k with
  | zero => simp [preL_zero, magicL]
  | succ k ih =>
    have hk : k = 0 ∨ k = 1 ∨ k = 2 ∨ k = 3 ∨ k = 4 ∨ k = 5 ∨ k = 6 ∨ k = 7 ∨ k = 8 ∨ k = 9 := by omega
    rcases hk with rfl | rfl | rfl | rfl | rfl | rfl | rfl | rfl | rfl | rfl <;> simp [preL, magicL, le_length, widthsN, List.range_succ]
theorem le_one (n : Int) (h : 0 ≤ n ∧ n < 256) : le 1 n = [n] := by
  simp [le, List.range_succ]; omega
theorem preL_ten (s : Sup) (h : SupOk s) : preL s 10 ++ List.replicate 28 0 = body7 s := by
  obtain ⟨⟨a, b, c, d, e⟩, -, -, -⟩ := h
  have h3 : le 3 0 = [0, 0, 0] := by decide
  simp only [preL, List.range_succ, List.range_zero, List.nil_append, List.map_append, List.map_cons, List.map_nil, List.flatten_append, List.flatten_cons, List.flatten_nil, widthsN, valsL]
  simp only [List.getElem?_cons_zero, List.getElem?_cons_succ, Option.getD_some]
  rw [le_one s.b (by omega), le_one s.l (by omega), le_one s.m (by omega), le_one s.h (by omega), le_one s.c (by omega), le_one 1 (by omega), le_one 0 (by omega), h3]
  simp [body7, magicL]
theorem preL_ten_length (s : Sup) : (preL s 10).length = 32 := by
  simp [preL, magicL, le_length, widthsN, List.range_succ]
theorem fit_k (s : Sup) (h : SupOk s) (ht : 0 ≤ s.t) (k : Nat) (hk : k < 10) : 1 ≤ widthsN[k]?.getD 0 ∧ widthsN[k]?.getD 0 ≤ 8 ∧ ((valsL s)[k]?.getD 0) / 256 ^ (widthsN[k]?.getD 0) = 0 ∧ u64ok ((valsL s)[k]?.getD 0) ∧ widthsL[k]?.getD 0 = ((widthsN[k]?.getD 0 : Nat) : Int) := by
  obtain ⟨⟨a, b, c, d, e⟩, f, g, i⟩ := h
  have hk' : k = 0 ∨ k = 1 ∨ k = 2 ∨ k = 3 ∨ k = 4 ∨ k = 5 ∨ k = 6 ∨ k = 7 ∨ k = 8 ∨ k = 9 := by omega
  unfold u64ok
  rcases hk' with rfl | rfl | rfl | rfl | rfl | rfl | rfl | rfl | rfl | rfl <;>
    simp only [widthsN, widthsL, valsL, List.getElem?_cons_zero, List.getElem?_cons_succ, Option.getD_some] <;> refine ⟨by omega, by omega, by first | omega | decide, by omega, by first | rfl | decide⟩

def encS (s : Sup) : List Int := if SupOk s then enc7 s else []
theorem supE_ok {s : Sup} (h : SupOk s) : supE s = 0 := by rw [supE, if_pos h.1, if_pos h]
theorem supE_no {s : Sup} (h : ¬ SupOk s) : supE s ≠ 0 := by
  unfold supE
  split
  · simp [h]
  · decide
theorem body7_length (s : Sup) : (body7 s).length = 60 := by simp [body7, magicL, le_length]
theorem enc7_length (s : Sup) : (enc7 s).length = 64 := by simp [enc7, body7_length, le_length]
theorem padF_pre (s : Sup) (h : SupOk s) : padF (preL s 10) 60 = (body7 s, 0) := by
  rw [padF, if_neg (by omega), if_neg (by rw [preL_ten_length]; omega), preL_ten_length, ← preL_ten s h]
  rfl
theorem putL4 (z : Int) (h : 0 ≤ z ∧ z < 4294967296) : putE z 4 = 0 ∧ putL z 4 = le 4 z := put_fit (m := 4) (by omega) (by omega) (by omega)
set_option maxRecDepth 100000 in
set_option maxHeartbeats 4000000 in
theorem sencode_any (s : Sup) (w : World) (hs : s.ok) (ht : Tab w) (hw : Wid w) :
    Calls Tryd.prog 32 #[.agg s.cells] w fun e w' => ∃ v', e = .returned (.tuple #[v', .int .i64 (supE s)]) ∧ OB w' w.heap.size v' (encS s) ∧ Below w.heap.size w w' := by
  have HA := Lib.hid (SAt.new 54 w s)
  have hb0 := Lib.hid (below_alloc (Below.refl w.heap.size w) (.cells s.cells 54))
  have Ht := Lib.hid ht
  have Hw := Lib.hid hw
  clear ht hw
  by_cases hk : SupOk s
  · have hE : Hid (supE s = 0) := Lib.hid (supE_ok hk)
    have hV : Hid (encS s = body7 s ++ le 4 (sum (body7 s))) := Lib.hid (by rw [encS, if_pos hk]; rfl)
    have Hk := Lib.hid (fit_k s hk hs.t.1)
    have Hpre := Lib.hid (fun k => preL_succ s k)
    have Hpl := Lib.hid (preL_length s)
    have Hpad := Lib.hid (padF_pre s hk)
    rw [hE.out, hV.out]
    have kc := conv_last
    go_enter Tryd.func32, Tryd.ntmps32
    go_wp2_with (refine go_value (o := ⟨some 13, _, _, _, _, _⟩) (by rfl) (ex_load HA.out.load54 rfl rfl) ?_)
    refine (check_any s _ hs).mono ?_
    rw [hE.out]
    rintro e w1 ⟨rfl, hb1⟩
    have HA1 := HA.out.below hb1
    have hc := HA1.cfg
    have h5 : ∀ A B : Obj, ((w1.alloc A).alloc B).cell? ⟨w.heap.size, 5, none⟩ = some (.int .u64 s.t) := fun A B => (HA1.below (below_alloc (below_alloc (Below.refl _ _) A) B)).t
    have h6 : ∀ A B : Obj, ((w1.alloc A).alloc B).cell? ⟨w.heap.size, 6, none⟩ = some (.int .u64 s.f) := fun A B => (HA1.below (below_alloc (below_alloc (Below.refl _ _) A) B)).f
    have hb1' := Lib.hid (below_then hb0.out hb1)
    obtain ⟨b, l, m, hi, c, t, f⟩ := s
    have hc' : (loadVar 48 ⟨w.heap.size, 0, none⟩).run Tryd.prog w1 = .ok (.agg #[.int .i64 b, .int .i64 l, .int .i64 m, .int .i64 hi, .int .i64 c]) w1 := hc
    clear hc
    obtain ⟨hob, hol, hom, hoh, hoc, hot, hof⟩ := hs
    simp only [i64ok, u64ok] at hob hol hom hoh hoc hot hof
    simp only [] at h5 h6
    obtain ⟨⟨⟨b1, b2⟩, ⟨l1, l2⟩, ⟨m1, m2, -, -⟩, ⟨x1, x2⟩, ⟨c1, c2⟩⟩, -, -, -⟩ := hk
    simp only [] at b1 b2 l1 l2 m1 m2 x1 x2 c1 c2
    go_wp2_with (refine go_value (o := ⟨some 19, _, _, _, _, _⟩) (by rfl) (ex_load hc' rfl rfl) ?_)
    have hS : ∃ S : Sup, S = ⟨b, l, m, hi, c, t, f⟩ := ⟨_, rfl⟩
    obtain ⟨S, hSe⟩ := hS
    have hvL : valsL S = [1, 0, b, l, m, hi, c, 0, t, f] := by rw [hSe]; rfl
    rw [← hSe] at Hk Hpre Hpl Hpad hV
    have HSe := Lib.hid hSe
    clear hSe hE
    obtain ⟨W3, hW3⟩ : ∃ W3, (((w1.alloc (.cells #[.int .i64 b, .int .i64 l, .int .i64 m, .int .i64 hi, .int .i64 c] 48)).alloc (.cells #[.int .u8 87, .int .u8 73, .int .u8 67, .int .u8 75, .int .u8 69, .int .u8 84] 5 (6, 7))).alloc (.cells #[.int .u64 1, .int .u64 0, .int .u64 b, .int .u64 l, .int .u64 m, .int .u64 hi, .int .u64 c, .int .u64 0, .int .u64 t, .int .u64 f] 49)) = W3 := ⟨_, rfl⟩
    have hvals : ∀ j, j < 10 → W3.cell? ⟨w1.heap.size + 1 + 1, j, none⟩ = some (.int .u64 ((valsL S)[j]?.getD 0)) := fun j hj => by
      rw [← hW3, cell_of_row _ _ j _ _ _ (heap_top _ _ _ (by simp)), hvL]
      have h : j = 0 ∨ j = 1 ∨ j = 2 ∨ j = 3 ∨ j = 4 ∨ j = 5 ∨ j = 6 ∨ j = 7 ∨ j = 8 ∨ j = 9 := by omega
      rcases h with rfl | rfl | rfl | rfl | rfl | rfl | rfl | rfl | rfl | rfl <;> rfl
    have hAB : AB W3 (w1.heap.size + 1) (.slice (some ⟨w1.heap.size + 1, 0, none⟩) 6 6) (preL S 0) := by
      rw [preL_zero, ← hW3]
      exact Or.inr ⟨_, Nat.le_refl _, by simp, rfl, RBy.lit _ (heap_under _ (heap_top _ _ _ (by simp))) rfl rfl rfl (by decide)⟩
    have hb3 : Below w.heap.size w W3 := by
      rw [← hW3]
      exact below_alloc (below_alloc (below_alloc hb1'.out _) _) _
    have hsz3 : w1.heap.size + 3 ≤ W3.heap.size := by rw [← hW3]; simp
    have Hvals := Lib.hid hvals
    have HAB := Lib.hid hAB
    have Hb3 := Lib.hid hb3
    have hle1 := hb1'.out.size
    rw [hW3]
    clear hvals hAB hb3 hvL h5 h6 hc' kc hb1 HA HA1 hb0 hb1' hW3
    go_loopw [6, 43] (fun ov i wr => ∃ (k : Nat) (u : Value), u = ov ∧ k ≤ 10 ∧ i = .int .i64 k ∧ Hid (AB wr (w1.heap.size + 1) u (preL S k)) ∧ Hid (u.ownBlock ≠ some (w1.heap.size + 1 + 1)) ∧ Hid (∀ j, j < 10 → wr.cell? ⟨w1.heap.size + 1 + 1, j, none⟩ = some (.int .u64 ((valsL S)[j]?.getD 0))) ∧ Hid (Below w.heap.size w wr) ∧ w1.heap.size + 3 ≤ wr.heap.size) (fun _ i _ => 10 - (intOf i).toNat)
    case atStart => exact ⟨0, _, rfl, Nat.zero_le _, rfl, HAB, Lib.hid (by simp [Value.ownBlock]), Hvals, Hb3, hsz3⟩
    case round =>
      clear HAB Hvals Hb3 hsz3
      obtain ⟨k, u, rfl, hk, rfl, HA, Hown, Hvl, Hbr, hszr⟩ := hrel
      by_cases hlt : k < 10
      · have hx := Hvl.out k hlt
        have hwid := (Hw.out.below Hbr.out) k hlt
        obtain ⟨m1, m2, m3, m4, m5⟩ := Hk.out k hlt
        have hpr := Hpre.out k
        have hpl := Hpl.out k hk
        rw [m5] at hwid
        generalize (valsL S)[k]?.getD 0 = n at hx m3 m4 hpr
        generalize widthsN[k]?.getD 0 = q at hwid m1 m2 m3 hpr m5
        have Hpr := Lib.hid hpr
        have hpf := put_fit m1 m2 m3
        simp only [u64ok] at m4
        clear hpr m5
        go_wp2_with (first
          | (go_at_call 61; refine (put_any n (q : Int) _ m4 (by omega)).mono ?_; rw [hpf.1, hpf.2]; rintro e w4 ⟨v4, rfl, ho4, hb4⟩; have HA4 := HA.out.below hb4; have hsz4 : w1.heap.size + 3 ≤ w4.heap.size := Nat.le_trans hszr hb4.size)
          | (at_builtin; refine wpList_appU rfl (.tmp 56) (.tmp 57) 25 rfl Tryd.underlying25 info5 (w1.heap.size + 1) u v4 (preL S k) (le q n) rfl rfl HA4 ho4.reads (by rw [le_length]; omega) (by rw [le_length]; omega) (by omega) ?_; intro v6 w6 ho6 hg6 hown6))
        go_roundw
        case rel =>
          refine ⟨k + 1, _, rfl, by omega, by go_num, Lib.hid (Or.inl (by rw [Hpr.out]; exact ho6)), Lib.hid ?_, Lib.hid fun j hj => ?_, Lib.hid (below_grownA (below_then Hbr.out hb4) HA4 (by omega) hg6), Nat.le_trans hsz4 hg6.size⟩
          · rcases hown6 with h | ⟨bb, h, hge⟩
            · rw [h]; exact Hown.out
            · rw [h]; simp; omega
          · have h9 := keep_cell hb4 (Nat.le_refl _) (Hvl.out j hj)
            exact (World.cell?_of_block (a := ⟨w1.heap.size + 1 + 1, j, none⟩) (hg6.block (w1.heap.size + 1 + 1) (by omega) (fun e => Hown.out e.symm))).trans h9
        case measure => simp [intOf]; omega
      · obtain rfl : k = 10 := by omega
        have hown := HA.out
        have hrd : RBy wr u (preL S 10) := by
          rcases HA.out with h | ⟨g, _, _, _, h⟩
          · exact h.reads
          · exact h
        clear hk hlt hown
        go_wp2_with fail
        refine (pad_any _ (preL S 10) 60 _ hrd (by omega)).mono ?_
        rw [Hpad.out]
        rintro e w7 ⟨v7, rfl, ho7, hb7⟩
        have Hb7 := Lib.hid (below_then Hbr.out hb7)
        have hl7 := body7_length S
        rw [← HSe.out]
        simp only [] at ho7
        obtain ⟨Y, hY⟩ : ∃ Y, body7 S = Y := ⟨_, rfl⟩
        rw [hY] at ho7 hl7
        have HY := Lib.hid hY
        clear hY hrd hb7
        have ho7' := ho7.lower (b2 := w.heap.size) (by omega)
        obtain ⟨g7, c7, rfl, -, -, -, -⟩ := ho7.form (by rw [hl7]; omega)
        rw [hl7] at ho7 ho7' ⊢
        go_wp2_with fail
        refine (of_b _ [Y] _ ?_ ?_).mono ?_
        · exact RBs.one (heap_top _ _ _ rfl) (by decide) (ho7.reads.below (below_alloc (Below.refl _ _) _))
        · exact Ht.out.below (below_alloc Hb7.out _)
        rw [show [Y].flatten = Y by simp]
        rintro e w8 ⟨rfl, hb8⟩
        have hsr := sum_range Y
        have ho8 := ho7'.below (below_then (below_alloc (Below.refl w7.heap.size w7) _) hb8)
        have Hb8 := Lib.hid (below_then (below_alloc Hb7.out _) hb8)
        have hp4 := putL4 (sum Y) hsr
        obtain ⟨z, hz⟩ : ∃ z, sum Y = z := ⟨_, rfl⟩
        rw [hz] at hsr hp4 ⊢
        have HZ := Lib.hid hz
        clear hz hb8 ho7 ho7'
        go_wp2_with fail
        refine (put_any z 4 _ ⟨hsr.1, by omega⟩ (by omega)).mono ?_
        rw [hp4.1, hp4.2]
        rintro e w9 ⟨v9, rfl, ho9, hb9⟩
        have ho8' := ho8.below hb9
        have Hb9 := Lib.hid (below_then Hb8.out hb9)
        have hs9 := Hb9.out.size
        go_wp2_with (at_builtin; refine wpList_app rfl (.tmp 73) (.tmp 74) 25 rfl Tryd.underlying25 info5 w.heap.size _ v9 Y (le 4 z) rfl rfl ho8' ho9.reads (by rw [hl7, le_length]; omega) hs9 ?_; intro vA wA hoA hgA _)
        go_ret2
        rw [← HZ.out, ← HY.out, HSe.out] at hoA
        exact ⟨_, rfl, hoA, below_grown Hb9.out ho8' (Nat.le_refl _) hgA⟩
  · have hE : encS s = [] := if_neg hk
    have hne := supE_no hk
    obtain ⟨ex, hex⟩ : ∃ ex, supE s = ex := ⟨_, rfl⟩
    have Hex := Lib.hid hex
    rw [hE, hex]
    rw [hex] at hne
    have hne2 : (ex == 0) = false := by simpa using hne
    clear hex hE hk
    go_enter Tryd.func32, Tryd.ntmps32
    go_wp2_with (refine go_value (o := ⟨some 13, _, _, _, _, _⟩) (by rfl) (ex_load HA.out.load54 rfl rfl) ?_)
    refine (check_any s _ hs).mono ?_
    rw [Hex.out]
    rintro e w1 ⟨rfl, hb1⟩
    go_wp2_with fail
    go_ret2
    exact ⟨_, rfl, OB.nil _ _, below_then hb0.out hb1⟩
end Go.Proofs.YtblfmofhfbbmdaaDoor
