/- The reference's bytes of a record: Encode. -/
import Derived.Test.YtblfmofhfbbmdaaDoorRec6
set_option linter.unusedVariables false
set_option linter.unusedSimpArgs false
namespace Go.Proofs.YtblfmofhfbbmdaaDoor
open Go.RowKit Crc

/-- What the bytes are while they are laid. -/
structure EncSt (w : World) (g : Nat) (r : Rec) (L : List Int) (W : World) : Prop where
  ob : OB W w.heap.size (.slice (some ⟨g, 0, none⟩) 64 64) L
  at' : At 71 W w.heap.size r
  be : Below w.heap.size w W
  lt : w.heap.size < g
  len : L.length = 64
theorem EncSt.set {w : World} {g : Nat} {r : Rec} {L : List Int} {W : World} (h : EncSt w g r L W) (j : Nat) (hj : j < 64) (c : Int) (hc : 0 ≤ c ∧ c < 256) : EncSt w g r (L.set j c) (W.setCell ⟨g, j, none⟩ (.int .u8 c)) :=
  ⟨h.ob.set j (by rw [h.len]; exact hj) c hc, (heap_setCell_other W ⟨g, j, none⟩ w.heap.size _ (by have := h.lt; simp; omega)).trans h.at', h.be.setCell (Nat.le_of_lt h.lt) _, h.lt, by rw [List.length_set]; exact h.len⟩
theorem EncSt.grown {w : World} {g : Nat} {r : Rec} {L L' : List Int} {W W' : World} (h : EncSt w g r L W) (ho : OB W' w.heap.size (.slice (some ⟨g, 0, none⟩) 64 64) L') (hg : W.grownBy W' (some g)) (hl : L'.length = 64) : EncSt w g r L' W' :=
  ⟨ho, (hg.block w.heap.size h.at'.lt (by have := h.lt; simp <;> omega)).trans h.at', h.be.grown hg h.be.size (fun k hk => by have := h.lt; have e : g = k := (by simpa using hk); omega), h.lt, hl⟩
theorem EncSt.below {w : World} {g : Nat} {r : Rec} {L : List Int} {W W' : World} (h : EncSt w g r L W) (hb : Below W.heap.size W W') : EncSt w g r L W' :=
  ⟨h.ob.below hb, h.at'.below hb, below_then h.be hb, h.lt, h.len⟩
/-- The lists one behind the other. -/
def encA (r : Rec) : List Int := [87, r.k] ++ List.replicate 62 0
def encB (r : Rec) : List Int := [87, r.k, 0, 0] ++ (le 8 r.p ++ List.replicate 52 0)
def encC (r : Rec) (t : Nat) : List Int := [87, r.k, 0, 0] ++ (le 8 r.p ++ (le 4 (r.b + r.i) ++ (r.v.take t ++ List.replicate (48 - t) 0)))
theorem encB_of (r : Rec) : putN (encA r) 4 8 r.p = encB r := by
  simp [putN, encA, encB, List.replicate]
theorem encC_of (r : Rec) : putN (encB r) 12 4 (r.b + r.i) = encC r 0 := by
  simp [putN, encB, encC, List.take_append, List.drop_append, le_length, List.replicate]
theorem encC_set (r : Rec) (t : Nat) (ht : t < 32) (h : r.v.length = 32) : (encC r t).set (16 + t) (r.v[t]?.getD 0) = encC r (t + 1) := by
  have e : encC r t = ([87, r.k, 0, 0] ++ (le 8 r.p ++ (le 4 (r.b + r.i) ++ r.v.take t))) ++ List.replicate (48 - t) 0 := by simp [encC]
  have hl : ([87, r.k, 0, 0] ++ (le 8 r.p ++ (le 4 (r.b + r.i) ++ r.v.take t))).length = 16 + t := by simp [le_length]; omega
  have e2 : encC r (t + 1) = ([87, r.k, 0, 0] ++ (le 8 r.p ++ (le 4 (r.b + r.i) ++ r.v.take t))) ++ (r.v[t]?.getD 0 :: List.replicate (47 - t) 0) := by
    rw [encC, List.take_succ_eq_append_getElem (by omega), List.getElem?_eq_getElem (by omega), show 48 - (t + 1) = 47 - t by omega]
    simp only [Option.getD_some, List.append_assoc, List.cons_append, List.nil_append]
  rw [e, e2, List.set_append_right _ _ (by omega), hl, Nat.sub_self, show 48 - t = (47 - t) + 1 by omega, List.replicate_succ, List.set_cons_zero]
theorem encC_full (r : Rec) (h : r.v.length = 32) : encC r 32 = bodyL r ++ List.replicate 4 0 := by
  simp only [encC, bodyL, List.take_of_length_le (show r.v.length ≤ 32 by omega)]
  simp [List.replicate]
theorem encC_length (r : Rec) (t : Nat) (ht : t ≤ 32) (h : r.v.length = 32) : (encC r t).length = 64 := by
  simp [encC, le_length]; omega
theorem enc_last (r : Rec) (h : r.v.length = 32) : putN (encC r 32) 60 4 (sum (bodyL r)) = encL r := by
  have hl := bodyL_length h
  rw [encC_full r h, putN, encL, List.take_left' hl, List.drop_of_length_le (by simp [hl]), List.append_nil]

set_option maxRecDepth 100000 in
set_option maxHeartbeats 4000000 in
theorem renc_any (r : Rec) (w : World) (hr : r.ok) :
    Calls Tryd.prog 41 #[.agg r.cells] w fun e w' => ∃ v', e = .returned (.tuple #[v', .int .i64 (chkE r)]) ∧ OB w' w.heap.size v' (encV r) ∧ Below w.heap.size w w' := by
  have HA := Lib.hid (At.new 71 w r)
  have hb0 := Lib.hid (below_alloc (Below.refl w.heap.size w) (.cells r.cells 71))
  by_cases hk : okRec r = true
  · have hE : Hid (chkE r = 0) := Lib.hid (by rw [chkE, if_pos hk])
    have hV : Hid (encV r = encL r) := Lib.hid (by rw [encV, if_pos hk])
    have Hm := Lib.hid (okRec_may hr hk)
    have hkk := Hm.out.k
    have hbb := Hm.out.b
    have hii := Hm.out.i
    have hpp := Hm.out.p
    have hmk : ∀ W : World, (Instr.makeSlice 25 (.int .i64 64) (.int .i64 64)).run Tryd.prog W = .ok (.slice (some ⟨W.heap.size, 0, none⟩) 64 64) (W.alloc (.cells (madeCells #[.int .u8 0] 64) 5)) := mk_bytes 64 (by omega)
    rw [hE.out]
    clear hk
    go_enter Tryd.func41, Tryd.ntmps41
    go_wp2_with (first
      | (refine go_value (o := ⟨some 7, _, _, _, _, _⟩) (by rfl) (ex_load (HA.out.load71 hr.n) rfl rfl) ?_)
      | fail)
    refine (rchk_any r _ hr).mono ?_
    rw [hE.out]
    rintro e w1 ⟨rfl, hb⟩
    have HB1 := below_then hb0.out hb
    have HA1 := HA.out.below hb
    have hlt := HA1.lt
    go_upto_region 5 with fail
    have St := Lib.hid (EncSt.mk ((ob_made w1 w.heap.size 64 (Nat.le_of_lt hlt) (by omega))) (HA1.below (below_alloc (Below.refl _ _) _)) (below_alloc HB1 _) hlt (by simp) : EncSt w w1.heap.size r (List.replicate 64 0) (w1.alloc (.cells (madeCells #[.int .u8 0] 64) 5)))
    clear HB1 HA1 hb hmk HA hb0
    obtain ⟨g, hg⟩ : ∃ g, w1.heap.size = g := ⟨_, rfl⟩
    rw [hg] at hlt St ⊢
    clear hg
    generalize w1.alloc (.cells (madeCells #[.int .u8 0] 64) 5) = W at St ⊢
    clear w1
    have cl0 := St.out.ob.cell 0 (by simp)
    have f0 := St.out.ob.free 0
    have St2 := Lib.hid (St.out.set 0 (by omega) 87 (by omega))
    clear St
    go_upto_region 6 with fail
    generalize W.setCell ⟨g, 0, none⟩ (.int .u8 87) = W2 at St2 ⊢
    clear cl0 f0 W
    have c0 := St2.out.at'.c0
    have cl1 := St2.out.ob.cell 1 (by simp)
    have f1 := St2.out.ob.free 1
    have St3 : Hid (EncSt w g r (encA r) (W2.setCell ⟨g, 1, none⟩ (.int .u8 r.k))) := Lib.hid (St2.out.set 1 (by omega) r.k (by omega))
    clear St2
    go_upto_region 7 with fail
    generalize W2.setCell ⟨g, 1, none⟩ (.int .u8 r.k) = W3 at St3 ⊢
    clear cl1 f1 W2 c0
    have c1 := St3.out.at'.c1
    go_wp2_with fail
    refine (rput_any g 64 64 4 8 r.p (encA r) _ w.heap.size St3.out.ob St3.out.len (by omega) (by omega) (by omega) St3.out.be.size).mono ?_
    rw [encB_of]
    rintro e W4 ⟨rfl, ho4, hg4⟩
    have St4 := Lib.hid (St3.out.grown ho4 hg4 (by simp [encB, le_length]))
    clear ho4 hg4 St3 c1 W3
    go_upto_region 8 with fail
    have c2 := St4.out.at'.c2
    have c3 := St4.out.at'.ci hr.n
    have hs2 : IntKind.u64.wrap (r.b + r.i) = r.b + r.i := by rw [wrap_u64]; omega
    go_wp2_with fail
    refine (rput_any g 64 64 12 4 (r.b + r.i) (encB r) _ w.heap.size St4.out.ob St4.out.len (by omega) (by omega) (by omega) St4.out.be.size).mono ?_
    rw [encC_of]
    rintro e W5 ⟨rfl, ho5, hg5⟩
    have St5 := Lib.hid (St4.out.grown ho5 hg5 (encC_length r 0 (by omega) hr.n))
    clear ho5 hg5 St4 c2 c3 W4 hs2
    go_wp2_with fail
    go_loopw [6] (fun iv wr => ∃ t : Nat, iv = .int .i64 (t : Int) ∧ t ≤ 32 ∧ Hid (EncSt w g r (encC r t) wr)) (fun iv _ => 32 - (intOf iv).toNat)
    case atStart => exact ⟨0, rfl, Nat.zero_le _, St5⟩
    case round =>
      clear St5
      obtain ⟨t, rfl, ht, St⟩ := hrel
      by_cases hlt2 : t < 32
      · have hcl := St.out.ob.cell (16 + t) (by rw [St.out.len]; omega)
        have hfr := St.out.ob.free (16 + t)
        have hcv := St.out.at'.cv t (by rw [hr.n]; exact hlt2)
        have hvb := hr.v.at' t
        have hset := St.out.set (16 + t) (by omega) (r.v[t]?.getD 0) hvb
        rw [encC_set r t hlt2 hr.n] at hset
        have Hset := Lib.hid hset
        clear hset St
        generalize r.v[t]?.getD 0 = x at hcv hvb Hset
        generalize (encC r t)[16 + t]?.getD 0 = y at hcl
        go_wp2
        go_roundw
        case rel => exact ⟨t + 1, by go_num, by omega, Hset.out⟩
        case measure => simp [intOf]; omega
      · obtain rfl : t = 32 := by omega
        have hfr : Hid (RBy wr (.slice (some ⟨g, 0, none⟩) 60 64) (bodyL r)) := Lib.hid (by
          have h9 := St.out.ob.reads.first (m := 60) (by rw [St.out.len]; omega)
          rwa [encC_full r hr.n, List.take_left' (bodyL_length hr.n)] at h9)
        have hsr := sum_range (bodyL r)
        have hel := Lib.hid (enc_last r hr.n)
        obtain ⟨q, hq⟩ : ∃ q, sum (bodyL r) = q := ⟨_, rfl⟩
        have Hq := Lib.hid hq
        rw [hq] at hsr hel
        clear hq
        go_wp2_with fail
        refine (rof_any _ (bodyL r) _ hfr.out).mono ?_
        rw [Hq.out]
        rintro e w' ⟨rfl, rfl⟩
        go_wp2_with fail
        refine (rput_any g 64 64 60 4 q (encC r 32) _ w.heap.size St.out.ob St.out.len (by omega) (by omega) (by omega) St.out.be.size).mono ?_
        rw [hel.out]
        rintro e W6 ⟨rfl, ho6, hg6⟩
        have St6 := Lib.hid (St.out.grown ho6 hg6 (encL_length hr.n))
        clear ho6 hg6
        go_wp2_with fail
        go_ret2
        exact ⟨_, rfl, by rw [hV.out]; exact St6.out.ob, St6.out.be⟩
  · have hE : Hid (chkE r = 60) := Lib.hid (by rw [chkE, if_neg hk])
    have hV : Hid (encV r = []) := Lib.hid (by rw [encV, if_neg hk])
    rw [hE.out]
    clear hk
    go_enter Tryd.func41, Tryd.ntmps41
    go_wp2_with (first
      | (refine go_value (o := ⟨some 7, _, _, _, _, _⟩) (by rfl) (ex_load (HA.out.load71 hr.n) rfl rfl) ?_)
      | (go_at_call 42; refine (rchk_any r _ hr).mono ?_; rw [hE.out]; rintro e w1 ⟨rfl, hb⟩; have hb1 := Lib.hid (below_then hb0.out hb); clear hb))
    go_ret2
    exact ⟨_, rfl, by rw [hV.out]; exact OB.nil _ _, hb1.out⟩
end Go.Proofs.YtblfmofhfbbmdaaDoor
