/- The walk of SumParts: it returns true, and nothing that was there has turned. -/
import Derived.Test.YtblfmofhfbbmdaaDoorParts0
import Derived.Test.YtblfmofhfbbmdaaDoorRefSum
import Derived.BigQuiet
import Derived.BigRegion
set_option linter.unusedVariables false
set_option linter.unusedSimpArgs false
namespace Go.Proofs.YtblfmofhfbbmdaaDoor
open Go.RowKit Crc

/-- The first k bytes written over, each by its place. -/
def overN (L : List Int) : Nat → List Int
  | 0 => L
  | k + 1 => (overN L k).set k (((overN L k)[k]?.getD 0 + (k : Int) + 1) % 256)
theorem overN_length (L : List Int) : ∀ k, (overN L k).length = L.length
  | 0 => rfl
  | k + 1 => by rw [overN, List.length_set, overN_length L k]
def over (L : List Int) : List Int := overN L L.length
theorem over_length (L : List Int) : (over L).length = L.length := overN_length L _
theorem cutL_length (xss : List (List Int)) : (cutL xss).length = min 40 xss.length := by simp [cutL]
theorem cutL_le (xss : List (List Int)) : ∀ ps ∈ cutL xss, ps.length ≤ 3000 := fun ps h => by
  simp only [cutL, List.mem_map] at h
  obtain ⟨a, _, rfl⟩ := h
  rw [List.length_take]; omega
theorem cutL_get (xss : List (List Int)) (j : Nat) (hj : j < min 40 xss.length) : (cutL xss)[j]?.getD [] = (xss[j]?.getD []).take 3000 := by
  have h1 : j < xss.length := by omega
  rw [cutL, List.getElem?_map, List.getElem?_take, if_pos (by omega), List.getElem?_eq_getElem h1]
  rfl
theorem flat_le (B : Nat) : ∀ yss : List (List Int), (∀ ps ∈ yss, ps.length ≤ B) → yss.flatten.length ≤ yss.length * B
  | [], _ => by simp
  | y :: t, h => by
    have h1 := flat_le B t fun p hp => h p (List.mem_cons_of_mem _ hp)
    have h2 := h y (List.mem_cons_self)
    simp only [List.flatten_cons, List.length_append, List.length_cons, Nat.add_mul, Nat.one_mul]
    omega
theorem OB.off {w : World} {base : Nat} {v : Value} {xs : List Int} {g : Nat} (h : OB w base v xs) (hg : w.heap.size ≤ g) : v.ownBlock ≠ some g := fun e => by
  have := (h.blk g e).2; omega
theorem set_self {α : Type} {l : List α} {k : Nat} {a : α} (h : l[k]? = some a) : l.set k a = l := by
  apply List.ext_getElem?
  intro j
  rw [List.getElem?_set]
  by_cases hj : k = j
  · subst hj
    rw [if_pos rfl, if_pos (List.getElem?_eq_some_iff.1 h).1, h]
  · rw [if_neg hj]
theorem u8_next (c k : Int) : 0 ≤ (c + k + 1) % 256 ∧ (c + k + 1) % 256 < 256 := by omega
theorem off_next {its : List Rm} {v v' : Value} {w : World} (h : ∀ t ∈ its, v.ownBlock ≠ some t.1) (hl : ∀ t ∈ its, t.1 < w.heap.size) (hat : v'.ownBlock = v.ownBlock ∨ v'.ownBlock = some w.heap.size) : ∀ t ∈ its, v'.ownBlock ≠ some t.1 := fun t ht => by
  rcases hat with e | e
  · rw [e]; exact h t ht
  · have := hl t ht
    rw [e]; simp; omega
theorem nil_off (g : Nat) : (Value.slice none 0 0).ownBlock ≠ some g := by simp [Value.ownBlock]

set_option maxRecDepth 100000 in
set_option maxHeartbeats 8000000 in
theorem sumParts_walk (v : Value) (xss : List (List Int)) (W : World) (hv : RBs W v xss) (ht : Tab W) :
    Calls Tryd.prog 4 #[v] W fun e w' => e = .returned (.bool true) ∧ Below W.heap.size W w' := by
  have Ht := Lib.hid ht
  have Hv0 := Lib.hid hv
  clear ht hv
  go_enter Tryd.func4, Tryd.ntmps4
  go_wp2_with fail
  refine (fixed_any _ Ht.out).mono ?_
  rintro e w0 ⟨rfl, hb0⟩
  have Hv1 := Lib.hid (Hv0.out.below hb0)
  have Hb0 := Lib.hid hb0
  clear hb0
  go_wp2_with fail
  refine (cut_any _ xss _ Hv1.out).mono ?_
  rintro e w1 ⟨v1, vs, rfl, hown, hvs, hb1⟩
  have hvl : vs.length = min 40 xss.length := by have := hown.1; omega
  have Hv := Lib.hid (show RBs w1 v1 (cutL xss) from RBs.own (by rw [hvl]; exact hown) (by rw [hvl, cutL_length]) (fun j u hu => by
    have hj := (List.getElem?_eq_some_iff.1 hu).1
    rw [cutL_get xss j (by omega)]
    exact (hvs j u hu).below hb1))
  have Hw1 := Lib.hid (below_then Hb0.out hb1)
  have Hle := Lib.hid (cutL_le xss)
  have hm : (cutL xss).length ≤ 40 := by rw [cutL_length]; omega
  clear hown hvs hvl hb1 Hb0 Hv1 Hv0
  obtain ⟨yss, hyss⟩ : ∃ yss, cutL xss = yss := ⟨_, rfl⟩
  rw [hyss] at Hv Hle hm
  clear hyss xss
  obtain ⟨m, hym⟩ : ∃ m, yss.length = m := ⟨_, rfl⟩
  obtain ⟨A, c, rfl, -⟩ := id Hv.out
  rw [hym] at hm Hv ⊢
  have Hsmall := Lib.hid (show ∀ k : Nat, (yss.take k).flatten.length ≤ 120000 from fun k => by
    have h1 := flat_le 3000 (yss.take k) fun p hp => Hle.out p (List.mem_of_mem_take hp)
    rw [List.length_take] at h1
    omega)
  go_wp2_with fail
  go_loopw [3, 4, 5] (fun s3 s4 s5 wr => ∃ (i : Nat) (its : List Rm), s5 = .int .i64 (i : Int) ∧ i ≤ m ∧ its.length = i ∧ Hid (its.map (fun t => t.2.2) = yss.take i) ∧ Hid (Ins 25 w1.heap.size wr s3 its) ∧ Hid (OB wr w1.heap.size s4 (yss.take i).flatten) ∧ Hid (∀ t ∈ its, s4.ownBlock ≠ some t.1) ∧ Hid (Below w1.heap.size w1 wr)) (fun _ _ s5 _ => m - (intOf s5).toNat)
  case atStart => exact ⟨0, [], rfl, Nat.zero_le _, rfl, rfl, Ins.nil _ _ _, OB.nil _ _, fun t h => by simp at h, Below.refl _ _⟩
  case round =>
    obtain ⟨i, its, rfl, hi, hil, Hmap, Hin, Htx, Hoff, Hb⟩ := hrel
    by_cases hlt : i < m
    · obtain ⟨A', c2, e', -, -, hcell⟩ := Hv.out
      simp only [Value.slice.injEq] at e'
      obtain ⟨rfl, -, rfl⟩ := e'
      obtain ⟨ad, rfl, hcs⟩ := hcell (by omega)
      obtain ⟨u, hu0, hr0⟩ := hcs i (by omega)
      have hu := keep_cell Hb.out (Nat.le_refl _) hu0
      have hr := hr0.below Hb.out
      have hps : yss[i]?.getD [] ∈ yss := by rw [List.getElem?_eq_getElem (by omega)]; exact List.getElem_mem _
      have hls := Hle.out _ hps
      have hflat : (yss.take (i + 1)).flatten = (yss.take i).flatten ++ (yss[i]?.getD []) := by
        rw [List.take_succ_eq_append_getElem (by omega), List.flatten_append, List.getElem?_eq_getElem (by omega)]; simp
      have hmap2 : (its.map (fun t => t.2.2)) ++ [yss[i]?.getD []] = yss.take (i + 1) := by
        rw [Hmap.out, List.take_succ_eq_append_getElem (by omega), List.getElem?_eq_getElem (by omega)]; rfl
      have Hmap2 := Lib.hid hmap2
      have Hflat := Lib.hid hflat
      have Hsm := Hsmall.out i
      clear hcell hcs hmap2 hflat hps
      generalize yss[i]?.getD [] = ps at hr hr0 hls Hmap2 Hflat
      have Hr := Lib.hid hr
      have Hu0 := Lib.hid hu0
      have Hr0 := Lib.hid hr0
      have Hlsm := Lib.hid Hsm
      have Hlps := Lib.hid hls
      clear hr hu0 hr0 Hsm
      go_wp2_with first
        | (go_at_call 25; refine (roomy_any u ps _ Hr.out (by omega)).mono ?_; rintro e w2 ⟨g, cg, rfl, hcg, hor, hb2⟩; have Hor := Lib.hid hor; have Hb2 := Lib.hid hb2; have Hbox := Lib.hid (Hin.out.below hb2).box; have Hsz := Lib.hid (show w1.heap.size ≤ w2.heap.size from Nat.le_trans Hb.out.size hb2.size); have Hl24 := Lib.hid (show (its.length + 1) * 24 ≤ 140737488355328 by omega); clear hor hb2)
        | (at_builtin; refine wpList_push rfl (.tmp 20) (.tmp 26) 30 25 (.slice none 0 0) 24 rfl Tryd.underlying30 info25 rfl (by decide) w1.heap.size _ its.length (its.map Rm.val) (.slice (some ⟨g, 0, none⟩) ps.length cg) rfl rfl rfl Hbox.out Hl24.out Hsz.out ?_; intro lv w3 ho3 hg3; have Hin3 := Lib.hid (Hin.out.add (t := (g, cg, ps)) (by decide) Hb2.out Hb.out.size Hor.out hcg ho3 hg3.grown); have Hb3 := Lib.hid (grew_below (below_then Hb.out Hb2.out) (Nat.le_refl _) Hbox.out hg3); have Htx3 := Lib.hid ((Htx.out.below Hb2.out).kept hg3.grown (own_unlike (Htx.out.below Hb2.out).1 Hbox.out (by decide))); have Hoff3 := Lib.hid (show ∀ t ∈ its ++ [(g, cg, ps)], u4.ownBlock ≠ some t.1 from fun t htt => by
            rcases List.mem_append.1 htt with h | h
            · exact Hoff.out t h
            · simp only [List.mem_singleton] at h; subst h; exact Htx.out.off (Hor.out.blk g rfl).1)
           have hu3 := keep_cell Hb3.out (Nat.le_refl _) Hu0.out; have Hr3 := Lib.hid (Hr0.out.below Hb3.out); have Hl3 := Lib.hid (show (yss.take i).flatten.length + ps.length ≤ 140737488355328 by have := Hlsm.out; have := Hlps.out; omega); clear ho3 hg3)
        | (at_builtin; refine wpList_app rfl (.tmp 28) (.tmp 32) 25 rfl Tryd.underlying25 info5 w1.heap.size _ u (yss.take i).flatten ps rfl rfl Htx3.out Hr3.out Hl3.out Hb3.out.size ?_; intro v4 w4 ho4 hg4 hat4; have Hin4 := Lib.hid (Hin3.out.kept (by decide) Htx3.out Hoff3.out hg4); have Hb4 := Lib.hid (below_grown Hb3.out Htx3.out (Nat.le_refl _) hg4); have Hoff4 := Lib.hid (show ∀ t ∈ its ++ [(g, cg, ps)], v4.ownBlock ≠ some t.1 from fun t htt => by
            rcases hat4 with h | h
            · rw [h]; exact Hoff3.out t htt
            · obtain ⟨j, hj⟩ := List.getElem?_of_mem htt
              have := ((Hin3.out.row j t hj).1.blk t.1 rfl).2
              rw [h]; simp; omega)
           have Htx4 := Lib.hid (show OB w4 w1.heap.size v4 (yss.take (i + 1)).flatten by rw [Hflat.out]; exact ho4); clear ho4 hg4 hat4)
      go_roundw
      case rel => exact ⟨i + 1, its ++ [(g, cg, ps)], by go_num, by omega, by simp [hil], by rw [List.map_append]; exact Hmap2, Hin4, Htx4, Hoff4, Hb4⟩
      case measure => simp [intOf]; omega
    · obtain rfl : i = m := by omega
      obtain ⟨wB, rfl⟩ : ∃ wB, wB = wr := ⟨_, rfl⟩
      have hmapf : its.map (fun t => t.2.2) = yss := by rw [Hmap.out, List.take_of_length_le (by omega)]
      have Hmf := Lib.hid hmapf
      have htx : OB wB w1.heap.size u4 yss.flatten := by have h := Htx.out; rwa [List.take_of_length_le (by omega)] at h
      have hzs := Hsmall.out yss.length
      rw [List.take_length] at hzs
      obtain ⟨Z, hZ⟩ : ∃ Z, yss.flatten = Z := ⟨_, rfl⟩
      rw [hZ] at hzs htx
      have HZ := Lib.hid hZ
      obtain ⟨zl, hzl⟩ : ∃ zl, Z.length = zl := ⟨_, rfl⟩
      have HtxB := Lib.hid htx
      have HB := Lib.hid (below_then Hw1.out Hb.out)
      have hsB := Hb.out.size
      have Hread := Lib.hid (show RBs wB u3 yss from by have h := Hin.out.fronts.reads; rwa [Hmf.out] at h)
      obtain ⟨A3, c3, e3, -⟩ := own_shape Hin.out.box
      rw [hil] at e3
      subst e3
      obtain ⟨A4, k4, e4, -⟩ := HtxB.out.reads.form
      rw [hzl] at e4
      subst e4
      have Hreadt := Lib.hid (show RBs (wB.alloc (.cells #[.slice A4 zl k4] 25)) (.slice (some ⟨wB.heap.size, 0, none⟩) 1 1) [Z] from RBs.one (heap_top _ _ _ rfl) (by decide) (HtxB.out.reads.below (below_alloc (Below.refl _ _) _)))
      have Hread2 := Lib.hid (Hread.out.below (below_alloc (Below.refl _ _) (.cells #[.slice A4 zl k4] 25)))
      have HtB := Lib.hid (Ht.out.below HB.out)
      have HtB2 := Lib.hid (HtB.out.below (below_alloc (Below.refl _ _) (.cells #[.slice A4 zl k4] 25)))
      have Hin0 := Lib.hid (Hin.out.below (below_alloc (Below.refl _ _) (.cells #[.slice A4 zl k4] 25)))
      have Hb0 := Lib.hid (below_alloc Hb.out (.cells #[.slice A4 zl k4] 25))
      clear htx hmapf Hmap Hin Htx Hoff Hb hZ hzs hzl hi hlt
      obtain ⟨S, hS⟩ : ∃ S, sum Z = S := ⟨_, rfl⟩
      have HS := Lib.hid hS
      clear hS
      have HZS := Lib.hid (show sum yss.flatten = S by rw [HZ.out]; exact HS.out)
      have HZS2 := Lib.hid (show sum [Z].flatten = S by simpa using HS.out)
      go_wp2_with fail
      refine (rof_any _ Z _ HtxB.out.reads).mono ?_
      rw [HS.out]
      rintro e w2 ⟨rfl, rfl⟩
      go_wp2_with fail
      refine (of_any _ yss _ Hread.out HtB.out).mono ?_
      rw [HZS.out]
      rintro e w2 ⟨rfl, rfl⟩
      go_wp2_with fail
      refine (of_any _ [Z] _ Hreadt.out HtB2.out).mono ?_
      rw [HZS2.out]
      rintro e w2 ⟨rfl, rfl⟩
      go_wp2_with fail
      refine (of_any _ yss _ Hread2.out HtB2.out).mono ?_
      rw [HZS.out]
      rintro e w2 ⟨rfl, rfl⟩
      clear Hread Hreadt Hread2 HtB HtB2
      generalize wB.alloc (.cells #[.slice A4 zl k4] 25) = wC at Hin0 Hb0 ⊢
      go_wp2_with fail
      generalize i = m at *
      have HMap0 := Lib.hid (show its.map (fun t => t.2.2) = (yss.take 0).map over ++ yss.drop 0 by rw [Hmf.out]; simp)
      clear Hmf HZ HZS HZS2 HS HtxB hsB
      go_loopw [7, 8, 9] (fun s7 s8 s9 wr => ∃ (k : Nat) (jts : List Rm), s8 = .int .i64 (k : Int) ∧ k ≤ m ∧ jts.length = m ∧ Hid (jts.map (fun t => t.2.2) = (yss.take k).map over ++ yss.drop k) ∧ Hid (Ins 25 w1.heap.size wr (.slice A3 m c3) jts) ∧ Hid (OB wr w1.heap.size s7 ((yss.take k).map over).flatten) ∧ Hid (∀ t ∈ jts, s7.ownBlock ≠ some t.1) ∧ Hid (Below w1.heap.size w1 wr)) (fun _ s8 _ _ => m - (intOf s8).toNat)
      case atStart => exact ⟨0, its, rfl, Nat.zero_le _, hil, HMap0, Hin0, OB.nil _ _, fun t _ => nil_off _, Hb0⟩
      case round =>
        clear HMap0 Hin0 Hb0 hil
        obtain ⟨k, jts, rfl, hk, hjl, Hmap, Hin, Hot, Hoff, Hb⟩ := hrel
        by_cases hlt : k < m
        · obtain ⟨g4, cap4, e4, -, -, hbx⟩ := own_cells Hin.out.box (by omega)
          rw [hjl] at e4
          simp only [Value.slice.injEq] at e4
          obtain ⟨rfl, -, rfl⟩ := e4
          have hkl : k < jts.length := by omega
          have hit := List.getElem?_eq_getElem hkl
          obtain ⟨t, ht⟩ : ∃ t, jts[k] = t := ⟨_, rfl⟩
          rw [ht] at hit
          have hcell := hbx k (Rm.val t) (by rw [List.getElem?_map, hit]; rfl)
          have hyk : yss[k]?.getD [] = t.2.2 := by
            have h9 := congrArg (fun l => l[k]?) Hmap.out
            simp only [List.getElem?_map, hit] at h9
            rw [List.getElem?_append_right (by simp; omega), List.getElem?_drop, List.length_map, List.length_take, show k + (k - min k yss.length) = k by omega] at h9
            rw [← h9]; rfl
          obtain ⟨A', c2', e', -, -, hpc⟩ := Hv.out
          simp only [Value.slice.injEq] at e'
          obtain ⟨rfl, -, rfl⟩ := e'
          obtain ⟨ad, rfl, hcs⟩ := hpc (by omega)
          obtain ⟨u, hu0, hr0⟩ := hcs k (by omega)
          rw [hyk] at hr0
          have hu := keep_cell Hb.out (Nat.le_refl _) hu0
          have hr := hr0.below Hb.out
          have hrow := Hin.out.row k t hit
          have hps : t.2.2.length ≤ 3000 := by
            rw [← hyk, List.getElem?_eq_getElem (by omega)]
            exact Hle.out _ (List.getElem_mem _)
          have Hyk := Lib.hid hyk
          have Hit := Lib.hid hit
          obtain ⟨g, cg, ps⟩ := t
          simp only [Rm.val] at hcell
          simp only at hps hrow hr
          have Hq := Lib.hid (show ∀ n, Calls Tryd.prog 27 #[.slice (some ⟨g, 0, none⟩) ps.length cg, u] (wr.drewN n) fun e w' => e = .returned (.bool true) ∧ w' = wr.drewN n from fun n =>
            (whole_any g ps.length cg u ps _ (by have h9 := hrow.1.reads.below (below_drewN (Below.refl _ _) n); simpa using h9) rfl hrow.2 (hr.below (below_drewN (Below.refl _ _) n))).mono fun e w' h => ⟨h.1, h.2.symm⟩)
          have hcl := hcell
          clear hbx hcs hpc hu0 hr0 hrow hit ht hyk hr hcl
          go_wp2
          go_quiet ((go_at_call 27; exact Calls.quiet_of_same (Hq.out _)))
          go_wp2
          have HinD := Lib.hid (show Ins 25 w1.heap.size (wr.drewN nq) (.slice (some ⟨g4, 0, none⟩) m c3) (jts.set k (g, cg, overN ps 0)) by rw [overN, set_self Hit.out]; exact Hin.out.below (below_drewN (Below.refl _ _) nq))
          have HotD := Lib.hid (Hot.out.below (below_drewN (Below.refl _ _) nq))
          have HbD := Lib.hid (below_drewN Hb.out nq)
          have hgo := Lib.hid (show u7.ownBlock ≠ some g from Hoff.out _ (List.mem_of_getElem? Hit.out))
          have hgb := ((Hin.out.row k _ Hit.out).1.blk g rfl).1
          obtain ⟨n, hn⟩ : ∃ n, ps.length = n := ⟨_, rfl⟩
          rw [hn] at hps
          have Hn := Lib.hid hn
          clear Hq Hin Hot Hb hcell hu hn
          generalize wr.drewN nq = wq at HinD HotD HbD ⊢
          go_loopw [9] (fun s9 wr => ∃ j : Nat, s9 = .int .i64 (j : Int) ∧ j ≤ n ∧ Hid (Ins 25 w1.heap.size wr (.slice (some ⟨g4, 0, none⟩) m c3) (jts.set k (g, cg, overN ps j))) ∧ Hid (OB wr w1.heap.size u7 ((yss.take k).map over).flatten) ∧ Hid (Below w1.heap.size w1 wr)) (fun s9 _ => n - (intOf s9).toNat)
          case atStart => exact ⟨0, rfl, Nat.zero_le _, HinD, HotD, HbD⟩
          case round =>
            clear HinD HotD HbD
            obtain ⟨j, rfl, hj, Hin, Hot, Hb⟩ := hrel
            have hset : (jts.set k (g, cg, overN ps j))[k]? = some (g, cg, overN ps j) := List.getElem?_set_self hkl
            obtain ⟨g4', cap4, e4, -, -, hbx⟩ := own_cells Hin.out.box (by rw [List.length_set]; omega)
            rw [List.length_set, hjl] at e4
            simp only [Value.slice.injEq, Option.some.injEq, Addr.mk.injEq] at e4
            obtain ⟨⟨rfl, -⟩, -, rfl⟩ := e4
            have hcell := hbx k (.slice (some ⟨g, 0, none⟩) n cg) (by rw [List.getElem?_map, hset]; simp [Rm.val, overN_length, Hn.out])
            have hrow := Hin.out.row k _ hset
            simp only [overN_length, Hn.out] at hrow
            by_cases hlt2 : j < n
            · have hc := hrow.1.cell j (by rw [List.length_append, overN_length, Hn.out]; omega)
              rw [List.getElem?_append_left (by rw [overN_length, Hn.out]; omega)] at hc
              have hf := hrow.1.free j
              have hcb : 0 ≤ (overN ps j)[j]?.getD 0 ∧ (overN ps j)[j]?.getD 0 < 256 := by
                rw [List.getElem?_eq_getElem (by rw [overN_length, Hn.out]; omega)]
                exact hrow.1.2 _ (List.mem_append_left _ (List.getElem_mem _))
              have HS := Lib.hid (Hin.out.set (by decide) hset j (by rw [overN_length, Hn.out]; omega) _ (u8_next ((overN ps j)[j]?.getD 0) (j : Int)))
              have Hot2 := Lib.hid (Hot.out.set_other (p := ⟨g, j, none⟩) hgo.out (.int .u8 (((overN ps j)[j]?.getD 0 + (j : Int) + 1) % 256)))
              have Hb2 := Lib.hid (Hb.out.setCell (p := ⟨g, j, none⟩) hgb (.int .u8 (((overN ps j)[j]?.getD 0 + (j : Int) + 1) % 256)))
              rw [List.set_set] at HS
              have HS2 : Hid (Ins 25 w1.heap.size (wr.setCell ⟨g, j, none⟩ (.int .u8 (((overN ps j)[j]?.getD 0 + (j : Int) + 1) % 256))) (.slice (some ⟨g4, 0, none⟩) m c3) (jts.set k (g, cg, overN ps (j + 1)))) := HS
              clear hbx hset hrow Hin Hot Hb HS
              generalize (overN ps j)[j]?.getD 0 = cc at *
              go_wp2_with fail
              go_region
              go_wp2
              go_roundw
              case rel => exact ⟨j + 1, by go_num, by omega, Lib.hid HS2.out.drew, Lib.hid (OB.below Hot2.out (below_drew (Below.refl _ _))), Lib.hid (below_drew Hb2.out)⟩
              case measure => simp [intOf]; omega
            · have hjn : j = n := by omega
              subst hjn
              have hov : overN ps j = over ps := by rw [over, Hn.out]
              rw [hov] at hset hrow
              have Hset := Lib.hid hset
              have hfr : OB wr w1.heap.size (.slice (some ⟨g, 0, none⟩) j cg) (over ps) := hrow.1.front (by rw [over_length, Hn.out])
              have Hfr := Lib.hid hfr.reads
              have Hin2 : Hid (Ins 25 w1.heap.size wr (.slice (some ⟨g4, 0, none⟩) m c3) (jts.set k (g, cg, over ps))) := by rw [← hov]; exact Hin
              have hol := over_length ps
              rw [Hn.out] at hol
              have hky : k < yss.length := by omega
              have htk : (yss.take (k + 1)).map over = (yss.take k).map over ++ [over ps] := by
                rw [List.take_succ_eq_append_getElem hky, List.map_append]
                have h9 := Hyk.out
                simp only [List.getElem?_eq_getElem hky, Option.getD_some] at h9
                rw [h9]; rfl
              have hdr : yss.drop k = yss[k] :: yss.drop (k + 1) := List.drop_eq_getElem_cons hky
              have Hmap2 := Lib.hid (show (jts.set k (g, cg, over ps)).map (fun t => t.2.2) = (yss.take (k + 1)).map over ++ yss.drop (k + 1) by
                rw [List.map_set, Hmap.out, hdr, htk, List.set_append_right _ _ (by simp; omega), List.length_map, List.length_take, show k - min k yss.length = 0 by omega, List.set_cons_zero]
                simp)
              have Htk := Lib.hid (show ((yss.take (k + 1)).map over).flatten = ((yss.take k).map over).flatten ++ over ps by rw [htk]; simp)
              have hfl : ((yss.take k).map over).flatten.length ≤ 120000 := by
                have h1 := flat_le 3000 ((yss.take k).map over) fun p hp => by
                  obtain ⟨q, hq, rfl⟩ := List.mem_map.1 hp
                  rw [over_length]
                  exact Hle.out q (List.mem_of_mem_take hq)
                rw [List.length_map, List.length_take] at h1
                omega
              have Hfl := Lib.hid (show ((yss.take k).map over).flatten.length + (over ps).length ≤ 140737488355328 by rw [hol]; omega)
              have Hoff2 := Lib.hid (show ∀ t ∈ jts.set k (g, cg, over ps), u7.ownBlock ≠ some t.1 from fun t htt => by
                rcases List.mem_or_eq_of_mem_set htt with h | h
                · exact Hoff.out t h
                · subst h; exact hgo.out)
              have Hlt := Lib.hid (show ∀ t ∈ jts.set k (g, cg, over ps), t.1 < wr.heap.size from fun t htt => by
                obtain ⟨q, hq⟩ := List.getElem?_of_mem htt
                exact ((Hin2.out.row q t hq).1.blk t.1 rfl).2)
              have Hbs := Lib.hid Hb.out.size
              clear hbx hset hrow hfr hov hol htk hdr hfl hky Hmap
              go_wp2_with (at_builtin; refine wpList_app rfl (.tmp 95) (.tmp 99) 25 rfl Tryd.underlying25 info5 w1.heap.size _ _ ((yss.take k).map over).flatten (over ps) rfl rfl Hot.out Hfr.out Hfl.out Hbs.out ?_; intro v4 w4 ho4 hg4 hat4; have Hin4 := Lib.hid (Hin2.out.kept (by decide) Hot.out Hoff2.out hg4); have Hb4 := Lib.hid (below_grown Hb.out Hot.out (Nat.le_refl _) hg4); have Hoff4 := Lib.hid (off_next Hoff2.out Hlt.out hat4); have Hot4 := Lib.hid (show OB w4 w1.heap.size v4 ((yss.take (k + 1)).map over).flatten by rw [Htk.out]; exact ho4); clear ho4 hg4 hat4)
              go_roundw
              case rel => exact ⟨k + 1, _, by go_num, by omega, by rw [List.length_set]; exact hjl, Hmap2, Hin4, Hot4, Hoff4, Hb4⟩
              case measure => simp [intOf]; omega
        · obtain rfl : k = m := by omega
          have hmf : jts.map (fun t => t.2.2) = yss.map over := by rw [Hmap.out, List.take_of_length_le (by omega), List.drop_of_length_le (by omega), List.append_nil]
          have Hrd := Lib.hid (show RBs wr (.slice A3 k c3) (yss.map over) from by have h := Hin.out.fronts.reads; rwa [hmf] at h)
          have Hro := Lib.hid (show RBy wr u7 (yss.map over).flatten from by have h := Hot.out.reads; rwa [List.take_of_length_le (by omega)] at h)
          have HW := Lib.hid (below_then Hw1.out Hb.out)
          have HtE := Lib.hid (Ht.out.below HW.out)
          clear Hin Hot Hoff Hb Hmap hmf
          go_wp2_with fail
          refine (of_any _ (yss.map over) _ Hrd.out HtE.out).mono ?_
          rintro e w2 ⟨rfl, rfl⟩
          go_wp2_with fail
          refine (rof_any _ (yss.map over).flatten _ Hro.out).mono ?_
          rintro e w2 ⟨rfl, rfl⟩
          obtain ⟨S2, hS2⟩ : ∃ S2, sum (yss.map over).flatten = S2 := ⟨_, rfl⟩
          rw [hS2]
          go_wp2_with fail
          go_ret
          exact ⟨by simp, HW.out⟩
end Go.Proofs.YtblfmofhfbbmdaaDoor
