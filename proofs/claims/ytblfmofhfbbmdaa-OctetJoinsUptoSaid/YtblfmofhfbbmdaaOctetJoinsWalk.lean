/- The walk of OctetJoins: of parts that are together no longer than 2^21. -/
import Derived.Test.YtblfmofhfbbmdaaIns
import Derived.Test.YtblfmofhfbbmdaaOctetTakesWalk
import Derived.Deep.Cut
import Derived.Test.YtblfmofhfbbmdaaHeldQ
import Derived.BigQuiet
set_option linter.unusedVariables false
set_option linter.unusedSimpArgs false
namespace Go.Proofs.Ytblfmofhfbbmdaa
open Go.RowKit

theorem RBs.take {w : World} {A : Option Addr} {n c m : Nat} {xss : List (List Int)} (h : RBs w (.slice A n c) xss) (hm : m ≤ xss.length) : RBs w (.slice A m c) (xss.take m) := by
  obtain ⟨A', c', e, h1, h2, h3⟩ := h
  simp only [Value.slice.injEq] at e
  obtain ⟨rfl, rfl, rfl⟩ := e
  have hl : (xss.take m).length = m := by rw [List.length_take]; omega
  refine ⟨A, c, by rw [hl], by rw [hl]; omega, by rw [hl]; omega, fun hp => ?_⟩
  rw [hl] at hp ⊢
  obtain ⟨ad, e, hc⟩ := h3 (by omega)
  refine ⟨ad, e, fun j hj => ?_⟩
  obtain ⟨u, h4, h5⟩ := hc j (by omega)
  exact ⟨u, h4, by rw [List.getElem?_take, if_pos hj]; exact h5⟩
theorem flat_take (xss : List (List Int)) (m : Nat) : (xss.take m).flatten.length ≤ xss.flatten.length := by
  conv => rhs; rw [← List.take_append_drop m xss, List.flatten_append, List.length_append]
  omega

/-- The wanted bytes and four answers. -/
def Five (w : World) (b0 bE : Nat) (v1 a b c d : Value) (Z : List Int) : Prop := OB w b0 v1 Z ∧ OB w bE a Z ∧ OB w bE b Z ∧ OB w bE c [[7], [8]].flatten ∧ OB w bE d Z
theorem Five.below {w w' : World} {b0 bE : Nat} {v1 a b c d : Value} {Z : List Int} (h : Five w b0 bE v1 a b c d Z) (hb : Below w.heap.size w w') : Five w' b0 bE v1 a b c d Z :=
  ⟨h.1.below hb, h.2.1.below hb, h.2.2.1.below hb, h.2.2.2.1.below hb, h.2.2.2.2.below hb⟩
theorem Five.past {w w' : World} {b0 bE g : Nat} {v1 a b c d : Value} {Z : List Int} (h : Five w b0 bE v1 a b c d Z) (hg : w.grownBy w' (some g)) (h1 : ∀ b, v1.ownBlock = some b → b < g) (hE : g < bE) : Five w' b0 bE v1 a b c d Z :=
  ⟨h.1.kept hg (by
    cases hv : v1.ownBlock with
    | none => exact Or.inl rfl
    | some b => exact Or.inr (by have := h1 b hv; simp; omega)), h.2.1.past hg hE, h.2.2.1.past hg hE, h.2.2.2.1.past hg hE, h.2.2.2.2.past hg hE⟩

set_option maxRecDepth 100000 in
set_option maxHeartbeats 8000000 in
theorem octetJoins_walk (v : Value) (xss : List (List Int)) (W : World) (hv : RBs W v xss) (hlen : xss.flatten.length ≤ 2097152) :
    Calls Try.prog 7 #[v] W fun e w' => e = .returned (.bool true) ∧ Below W.heap.size W w' := by
  obtain ⟨A, c, rfl, hc, hn, -⟩ := id hv
  go_enter Try.func7, Try.ntmps7
  go_upto_if 16 with fail
  go_cut [0] from 14 (fun s0 wx => wx = W ∧ ∃ (yss : List (List Int)) (m c' : Nat), s0 = .slice A m c' ∧ yss.length = m ∧ Hid (RBs W (.slice A m c') yss) ∧ Hid (yss.flatten.length ≤ 2097152) ∧ m ≤ 50)
  case first =>
    by_cases h50 : 50 < xss.length
    · have hcc : 50 ≤ c := by omega
      go_wp2_with fail
      go_meet
      case rel => exact ⟨rfl, xss.take 50, 50, c, rfl, by simp; omega, hv.take (by omega), Nat.le_trans (flat_take xss 50) hlen, Nat.le_refl _⟩
    · go_wp2_with fail
      go_meet
      case rel => exact ⟨rfl, xss, xss.length, c, rfl, rfl, hv, hlen, by omega⟩
  case rest =>
    obtain ⟨rfl, yss, m, c', rfl, hym, Hv, Hlen, hm⟩ := hcut
    clear hv hlen hc hn xss
    go_wp2_with fail
    refine (awake_any _).mono ?_
    rintro e w0 ⟨rfl, hb0⟩
    go_wp2_with fail
    refine (rjoin_any _ yss _ (Hv.out.below hb0) (by have := Hlen.out; omega)).mono ?_
    rintro e w1 ⟨v1, rfl, ho1, hb1⟩
    have Hw1 := Lib.hid (below_then hb0 hb1)
    have Ho1 := Lib.hid ho1
    have hs1 := Hw1.out.size
    clear ho1 hb0 hb1
    go_wp2_with fail
    go_loopw [4, 5] (fun s4 s5 wr => ∃ (i : Nat) (its : List Rm), s5 = .int .i64 (i : Int) ∧ i ≤ m ∧ its.length = i ∧ Hid (its.map (fun t => t.2.2) = yss.take i) ∧ Hid (Ins 23 w1.heap.size wr s4 its) ∧ Hid (Below w1.heap.size w1 wr)) (fun _ s5 _ => m - (intOf s5).toNat)
    case atStart => exact ⟨0, [], rfl, Nat.zero_le _, rfl, rfl, Ins.nil _ _ _, Below.refl _ _⟩
    case round =>
      obtain ⟨i, its, rfl, hi, hil, Hmap, Hin, Hb⟩ := hrel
      by_cases hlt : i < m
      · obtain ⟨A', c2, e', -, -, hcell⟩ := Hv.out
        simp only [Value.slice.injEq] at e'
        obtain ⟨rfl, -, rfl⟩ := e'
        obtain ⟨ad, rfl, hcs⟩ := hcell (by omega)
        obtain ⟨u, hu0, hr0⟩ := hcs i (by omega)
        have hbw := below_then Hw1.out Hb.out
        have hu := keep_cell hbw (Nat.le_refl _) hu0
        have hr := hr0.below hbw
        have hls : (yss[i]?.getD []).length ≤ 2097152 := by
          have h9 := flat_take yss (i + 1)
          rw [List.take_succ_eq_append_getElem (by omega), List.flatten_append, List.length_append] at h9
          rw [List.getElem?_eq_getElem (by omega)]
          have := Hlen.out
          simp only [List.flatten_cons, List.flatten_nil, List.append_nil] at h9
          simp only [Option.getD_some]
          omega
        have hmap2 : (its.map (fun t => t.2.2)) ++ [yss[i]?.getD []] = yss.take (i + 1) := by
          rw [Hmap, List.take_succ_eq_append_getElem (by omega), List.getElem?_eq_getElem (by omega)]; rfl
        have Hmap2 := Lib.hid hmap2
        clear hcell hcs hu0 hr0 hmap2 hbw
        generalize yss[i]?.getD [] = ps at hr hls Hmap2
        have Hr := Lib.hid hr
        clear hr
        go_wp2_with first
          | (go_at_call 18; refine (roomy_any u ps _ Hr.out (by omega)).mono ?_; rintro e w2 ⟨g, cg, rfl, hcg, hor, hb2⟩; have Hor := Lib.hid hor; have Hb2 := Lib.hid hb2; have Hbox := Lib.hid (Hin.out.below hb2).box; have Hsz := Lib.hid (show w1.heap.size ≤ w2.heap.size from Nat.le_trans Hb.out.size hb2.size); have Hl24 := Lib.hid (show (its.length + 1) * 24 ≤ 140737488355328 by omega); clear hor hb2)
          | (at_builtin; refine wpList_push rfl (.tmp 29) (.tmp 35) 37 23 (.slice none 0 0) 24 rfl Try.underlying37 info23 rfl (by decide) w1.heap.size _ its.length (its.map Rm.val) (.slice (some ⟨g, 0, none⟩) ps.length cg) rfl rfl rfl Hbox.out Hl24.out Hsz.out ?_; intro lv w3 ho3 hg3; have Hin2 := Lib.hid (Hin.out.add (t := (g, cg, ps)) (by decide) Hb2.out Hb.out.size Hor.out hcg ho3 hg3.grown); have Hb3 := Lib.hid (grew_below (below_then Hb.out Hb2.out) (Nat.le_refl _) Hbox.out hg3); clear ho3 hg3)
        go_roundw
        case rel => exact ⟨i + 1, its ++ [(g, cg, ps)], by go_num, by omega, by simp [hil], by rw [List.map_append]; exact Hmap2, Hin2, Hb3⟩
        case measure => simp [intOf]; omega
      · obtain rfl : i = m := by omega
        obtain ⟨wE, rfl⟩ : ∃ wE, wE = wr := ⟨_, rfl⟩
        have hmapf : its.map (fun t => t.2.2) = yss := by rw [Hmap, List.take_of_length_le (by omega)]
        have Hmf := Lib.hid hmapf
        have Hw := Lib.hid (below_then Hw1.out Hb.out)
        obtain ⟨A4, c4, e4, -, -⟩ := own_shape Hin.out.box
        rw [hil] at e4
        subst e4
        have Hlen47 := Lib.hid (show (its.map (fun t => t.2.2)).flatten.length ≤ 140737488355328 by rw [hmapf]; have := Hlen.out; omega)
        have Ho1E := Lib.hid (Ho1.out.below Hb.out)
        have hsE := Hb.out.size
        have Hg := Lib.hid (show ∀ (j : Nat) (t : Rm), its[j]? = some t → w1.heap.size ≤ t.1 ∧ t.1 < wE.heap.size from fun j t ht => (Hin.out.row j t ht).1.blk t.1 rfl)
        have Hlie1 := Lib.hid Ho1.out.lies
        clear Hmap hmapf Ho1
        go_wp2_with fail
        refine (ojoin_any _ (its.map fun t => t.2.2) _ Hin.out.fronts.reads Hlen47.out).mono ?_
        rw [Hmf.out]
        generalize hZ : yss.flatten = Z at *
        rintro e w2 ⟨v2, rfl, ho2, hb2⟩
        obtain ⟨A2, k2, rfl, -⟩ := ho2.reads.form
        have c1 := conv_str (Ho1E.out.reads.below hb2)
        have c2 := conv_str ho2.reads
        go_wp2_with fail
        refine (blank_any _ Z _ ho2.reads).mono ?_
        rintro e w' ⟨rfl, rfl⟩
        go_wp2_with fail
        refine (rblank_any _ Z _ (Ho1E.out.reads.below hb2)).mono ?_
        rintro e w' ⟨rfl, rfl⟩
        go_wp2_with fail
        refine (ojoin_any _ (its.map fun t => t.2.2) _ (Hin.out.below hb2).fronts.reads Hlen47.out).mono ?_
        rw [Hmf.out, hZ]
        rintro e w3 ⟨v3, rfl, ho3, hb3⟩
        obtain ⟨A3, k3, rfl, -⟩ := ho3.reads.form
        have c3 := conv_str ((Ho1E.out.reads.below hb2).below hb3)
        have c4 := conv_str ho3.reads
        go_wp2_with fail
        refine (ojoin_any _ [[7], [8]] _ (RBs.two (heap_top _ _ _ (by simp)) (by decide) (RBy.lit _ (heap_under _ (heap_under _ (heap_top _ _ _ rfl))) rfl (by decide) rfl (by decide)) (RBy.lit _ (heap_under _ (heap_top _ _ _ (by simp))) rfl (by decide) rfl (by decide))) (by decide)).mono ?_
        rintro e w4 ⟨v4, rfl, ho4, hb4⟩
        obtain ⟨A4', k4, rfl, -⟩ := ho4.reads.form
        replace ho4 := ho4.lower (b2 := w3.heap.size) (by simp; omega)
        replace hb4 := below_then (below_alloc (below_alloc (below_alloc (Below.refl _ _) _) _) _) hb4
        go_wp2_with fail
        refine (ojoin_any _ (its.map fun t => t.2.2) _ (Hin.out.below (below_then hb2 (below_then hb3 hb4))).fronts.reads Hlen47.out).mono ?_
        rw [Hmf.out, hZ]
        rintro e w5 ⟨v5, rfl, ho5, hb5⟩
        obtain ⟨A5, k5, rfl, -⟩ := ho5.reads.form
        have h25 := below_then hb3 (below_then hb4 hb5)
        have hE5 := below_then hb2 h25
        have d1 := conv_str (Ho1E.out.reads.below hE5)
        have d2 := conv_str (ho2.reads.below h25)
        have d3 := conv_str (ho3.reads.below (below_then hb4 hb5))
        have d4 := conv_str ho5.reads
        have HE5 := Lib.hid hE5
        have HW5 := Lib.hid (below_then Hw.out hE5)
        have Hin5 := Lib.hid (Hin.out.below hE5)
        have Hs := Lib.hid (show wE.heap.size ≤ w2.heap.size ∧ w2.heap.size ≤ w3.heap.size ∧ w3.heap.size ≤ w4.heap.size ∧ w4.heap.size ≤ w5.heap.size from ⟨hb2.size, hb3.size, hb4.size, hb5.size⟩)
        have Hlie := Lib.hid (And.intro ho2.lies (And.intro ho3.lies (And.intro ho4.lies ho5.lies)))
        have HK : Hid (OB w5 w0.heap.size v1 Z ∧ OB w5 wE.heap.size (.slice A2 Z.length k2) Z ∧ OB w5 wE.heap.size (.slice A3 Z.length k3) Z ∧ OB w5 wE.heap.size (.slice A4' [[7], [8]].flatten.length k4) [[7], [8]].flatten ∧ OB w5 wE.heap.size (.slice A5 Z.length k5) Z) :=
          ⟨Ho1E.out.below hE5, (ho2.below h25).lower (by omega), (ho3.below (below_then hb4 hb5)).lower (by have := Hs.out; omega), (ho4.below hb5).lower (by have := Hs.out; omega), ho5.lower (by have := Hs.out; omega)⟩
        clear hb2 hb3 hb4 hb5 ho2 ho3 ho4 ho5 h25 hE5 Hin Hw Ho1E
        go_wp2_with fail
        clear c1 c2 c3 c4 d1 d2 d3 d4
        generalize i = m at *
        go_loopw [10] (fun s10 wr => ∃ k : Nat, s10 = .int .i64 (k : Int) ∧ k ≤ m ∧ Hid (Below w5.heap.size w5 wr)) (fun s10 _ => m - (intOf s10).toNat)
        case atStart => exact ⟨0, rfl, Nat.zero_le _, Below.refl _ _⟩
        case round =>
          obtain ⟨k, rfl, hk, Hbx⟩ := hrel
          by_cases hlt : k < m
          · obtain ⟨g4, cap4, e4, -, -, hbx⟩ := own_cells Hin5.out.box (by omega)
            rw [hil] at e4
            simp only [Value.slice.injEq] at e4
            obtain ⟨rfl, -, rfl⟩ := e4
            have hkl : k < its.length := by omega
            have hit := List.getElem?_eq_getElem hkl
            obtain ⟨t, ht⟩ : ∃ t, its[k] = t := ⟨_, rfl⟩
            rw [ht] at hit
            have hcell := keep_cell Hbx.out (Nat.le_refl _) (hbx k (Rm.val t) (by rw [List.getElem?_map, hit]; rfl))
            obtain ⟨A', c2', e', -, -, hpc⟩ := Hv.out
            simp only [Value.slice.injEq] at e'
            obtain ⟨rfl, -, rfl⟩ := e'
            obtain ⟨ad, rfl, hcs⟩ := hpc (by omega)
            obtain ⟨u, hu0, hr0⟩ := hcs k (by omega)
            have hyk : yss[k]?.getD [] = t.2.2 := by
              rw [← Hmf.out, List.getElem?_map, hit]; rfl
            rw [hyk] at hr0
            have hbw := below_then HW5.out Hbx.out
            have hu := keep_cell hbw (Nat.le_refl _) hu0
            have hrow := Hin5.out.row k t hit
            obtain ⟨g, cg, ps⟩ := t
            simp only [Rm.val] at hcell
            have Hq := Lib.hid (show ∀ n, Calls Try.prog 19 #[.slice (some ⟨g, 0, none⟩) ps.length cg, u] (wr.drewN n) fun e w' => e = .returned (.bool true) ∧ ∃ k, w' = (wr.drewN n).drewN k from fun n =>
              held_quiet g ps.length cg u ps _ (by have h9 := (hrow.1.reads.below Hbx.out).below (below_drewN (Below.refl _ _) n); simpa using h9) rfl hrow.2 ((hr0.below hbw).below (below_drewN (Below.refl _ _) n)))
            clear hbx hcs hpc hu0 hr0 hrow hbw hit ht hyk
            go_wp2
            go_quiet ((go_at_call 19; exact Calls.quiet_of (Hq.out _)))
            go_wp2
            go_roundw
            case rel => exact ⟨k + 1, by go_num, by omega, below_drewN Hbx.out _⟩
            case measure => simp [intOf]; omega
          · obtain rfl : m = k := by omega
            obtain ⟨wH, rfl⟩ : ∃ wH, wH = wr := ⟨_, rfl⟩
            have HF : Hid (Five wH w0.heap.size wE.heap.size v1 (.slice A2 Z.length k2) (.slice A3 Z.length k3) (.slice A4' [[7], [8]].flatten.length k4) (.slice A5 Z.length k5) Z) := Five.below HK.out Hbx.out
            have HWH := Lib.hid (below_then HW5.out Hbx.out)
            have HR := Lib.hid (Hin5.out.below Hbx.out).fronts
            have hsH := Hs.out
            have hsx := Hbx.out.size
            clear HK HW5 Hin5 Hbx HE5 Hs
            go_wp2
            go_loopw [11] (fun s11 wr => ∃ (k : Nat) (jts : List Rm), s11 = .int .i64 (k : Int) ∧ k ≤ m ∧ jts.length = m ∧ Hid (jts.map (fun t => t.2.2) = (yss.take k).map (List.map flip) ++ yss.drop k) ∧ Hid (∀ (j : Nat) (t : Rm), jts[j]? = some t → w1.heap.size ≤ t.1 ∧ t.1 < wE.heap.size) ∧
              Hid (Fronts 23 w1.heap.size wr (.slice A4 m c4) jts) ∧ Hid (Five wr w0.heap.size wE.heap.size v1 (.slice A2 Z.length k2) (.slice A3 Z.length k3) (.slice A4' [[7], [8]].flatten.length k4) (.slice A5 Z.length k5) Z) ∧ Hid (Below wc.heap.size wc wr) ∧ wH.heap.size ≤ wr.heap.size) (fun s11 _ => m - (intOf s11).toNat)
            case atStart => exact ⟨0, its, rfl, Nat.zero_le _, hil, Lib.hid (by rw [Hmf.out]; simp), Hg, HR, HF, HWH, Nat.le_refl _⟩
            case round =>
              obtain ⟨k, jts, rfl, hk, hjl, Hmap, Hgj, HRj, HFj, HWj, hsj⟩ := hrel
              by_cases hlt : k < m
              · obtain ⟨g4, cap4, e4, -, -, hbx⟩ := own_cells HRj.out.box (by omega)
                rw [hjl] at e4
                simp only [Value.slice.injEq] at e4
                obtain ⟨rfl, -, rfl⟩ := e4
                have hkl : k < jts.length := by omega
                have hit := List.getElem?_eq_getElem hkl
                obtain ⟨t, ht⟩ : ∃ t, jts[k] = t := ⟨_, rfl⟩
                rw [ht] at hit
                have hcell := hbx k (Rm.val t) (by rw [List.getElem?_map, hit]; rfl)
                have hyk : t.2.2 = yss[k]?.getD [] := by
                  have h9 := congrArg (fun l => l[k]?) Hmap.out
                  simp only [List.getElem?_map, hit] at h9
                  rw [List.getElem?_append_right (by simp; omega), List.getElem?_drop, List.length_map, List.length_take, show k + (k - min k yss.length) = k by omega] at h9
                  rw [← h9]; rfl
                have hmap2 : (jts.set k (t.1, t.2.1, t.2.2.map flip)).map (fun t => t.2.2) = (yss.take (k + 1)).map (List.map flip) ++ yss.drop (k + 1) := by
                  rw [List.map_set, Hmap.out, hyk]
                  have hky : k < yss.length := by omega
                  rw [List.set_append_right _ _ (by simp; omega), List.length_map, List.length_take, show k - min k yss.length = 0 by omega, List.drop_eq_getElem_cons hky, List.set_cons_zero, List.take_succ_eq_append_getElem hky, List.map_append, List.getElem?_eq_getElem hky]
                  simp
                have Hmap2 := Lib.hid hmap2
                have hps : t.2.2.length ≤ 2097152 := by
                  rw [hyk, List.getElem?_eq_getElem (by omega)]
                  have h9 := flat_take yss (k + 1)
                  rw [List.take_succ_eq_append_getElem (by omega), List.flatten_append, List.length_append] at h9
                  have := Hlen.out
                  rw [hZ] at h9
                  simp only [List.flatten_cons, List.flatten_nil, List.append_nil] at h9
                  simp only [Option.getD_some]
                  omega
                have hgt := Hgj.out k t hit
                have Hrow := Lib.hid (HRj.out.row k t hit)
                have Hit := Lib.hid hit
                have Hlt1 := Lib.hid (show ∀ b, v1.ownBlock = some b → b < t.1 from fun b hb => by have := (Hlie1.out b hb).2; omega)
                have Hgj2 : Hid (∀ (j : Nat) (t' : Rm), (jts.set k (t.1, t.2.1, t.2.2.map flip))[j]? = some t' → w1.heap.size ≤ t'.1 ∧ t'.1 < wE.heap.size) := fun j t' ht' => by
                  rw [List.getElem?_set] at ht'
                  by_cases hkj : k = j
                  · rw [if_pos hkj, if_pos (by omega)] at ht'
                    cases ht'
                    exact hgt
                  · rw [if_neg hkj] at ht'
                    exact Hgj.out j t' ht'
                clear hbx hit ht hyk hmap2 Hgj Hmap
                obtain ⟨g, cg, ps⟩ := t
                simp only [Rm.val] at hcell
                simp only at hps hgt
                have hs1' : w1.heap.size ≤ wr.heap.size := by omega
                go_wp2_with (go_at_call 20; refine (turn_any _ ps _ w1.heap.size Hrow.out (by omega) hs1').mono ?_; rintro e w' ⟨rfl, ho', hg'⟩; have hg' : wr.grownBy w' (some g) := hg'; have HR2 := Lib.hid (HRj.out.turn (by decide) Hit.out ho' hg'); have HF2 := Lib.hid (HFj.out.past hg' Hlt1.out hgt.2); have HW2 := Lib.hid (HWj.out.grown hg' HWj.out.size (fun j hj => by have e9 : g = j := (by simpa using hj); have := HWj.out.size; omega)); have hs2 := Lib.hid hg'.size; clear ho' hg')
                go_roundw
                case rel => exact ⟨k + 1, _, by go_num, by omega, by rw [List.length_set]; exact hjl, Hmap2, Hgj2, HR2, HF2, HW2, by have := hs2.out; omega⟩
                case measure => simp [intOf]; omega
              · obtain rfl : m = k := by omega
                obtain ⟨wT, rfl⟩ : ∃ wT, wT = wr := ⟨_, rfl⟩
                have hmf : jts.map (fun t => t.2.2) = yss.map (List.map flip) := by rw [Hmap.out, List.take_of_length_le (by omega), List.drop_of_length_le (by omega), List.append_nil]
                have hfl : (jts.map (fun t => t.2.2)).flatten = Z.map flip := by rw [hmf, ← hZ, List.map_flatten]
                have Hfl := Lib.hid hfl
                have hzl := Hlen.out
                have HLj := Lib.hid (show (jts.map (fun t => t.2.2)).flatten.length ≤ 140737488355328 by rw [hfl, List.length_map]; omega)
                clear hmf hfl Hmap
                obtain ⟨wT, rfl⟩ : ∃ wx, wx = wT := ⟨_, rfl⟩
                go_wp2_with fail
                refine (own_any _ Z _ HFj.out.1.reads (by omega)).mono ?_
                rintro e w10 ⟨v10, rfl, ho10, hb10⟩
                go_wp2_with fail
                refine (turn_any _ Z _ wT.heap.size ho10 (by omega) hb10.size).mono ?_
                rintro e w11 ⟨rfl, ho11, hg11⟩
                have hb11 : Below wT.heap.size wT w11 := hb10.grown hg11 hb10.size (fun j hj => (ho10.blk j hj).1)
                go_wp2_with fail
                refine (ojoin_any _ (jts.map fun t => t.2.2) _ (HRj.out.below hb11).reads HLj.out).mono ?_
                rw [Hfl.out]
                rintro e w12 ⟨v12, rfl, ho12, hb12⟩
                have hb1T := below_then hb11 hb12
                have d1 := conv_str ho12.reads
                have d2 := conv_str (ho11.reads.below hb12)
                have HW12 := Lib.hid (below_then HWj.out hb1T)
                have HF12 := Lib.hid (HFj.out.below hb1T)
                obtain ⟨A12, k12, rfl, -⟩ := ho12.reads.form
                rw [List.length_map] at ho12 d1 ⊢
                obtain ⟨-, o2, o3, o4, o5⟩ := HF12.out
                have q12 := HW12.out.size
                have q10 := hb10.size
                have q11 := hg11.size
                have q13 := hb12.size
                have hqW := HWj.out.size
                have r2 := Lib.hid (OB.lower (b2 := wc.heap.size) o2 (by omega)).oi
                have r3 := Lib.hid (OB.lower (b2 := wc.heap.size) o3 (by omega)).oi
                have r4 := Lib.hid (OB.lower (b2 := wc.heap.size) o4 (by omega)).oi
                have r5 := Lib.hid (OB.lower (b2 := wc.heap.size) o5 (by omega)).oi
                have r6 := Lib.hid (OB.lower (b2 := wc.heap.size) ho12 (by omega)).oi
                have L6 := Lib.hid ho12.lies
                clear o2 o3 o4 o5 ho12 ho11 ho10 hg11 hb11 hb10 hb12 hb1T HF12
                go_wp2_with fail
                have hst := St.made (k := .u8) (e := 5) (T := 23) (base := wc.heap.size) (w := w12) (its := [(.slice A2 Z.length k2, Z), (.slice A3 Z.length k3, Z), (.slice A4' 2 k4, [[7], [8]].flatten), (.slice A5 Z.length k5, Z), (.slice A12 Z.length k12, Z.map flip)]) (by omega) (by simp)
                  (by
                    intro q hq
                    simp only [List.mem_cons, List.mem_nil_iff, or_false] at hq
                    rcases hq with rfl | rfl | rfl | rfl | rfl
                    · exact r2.out
                    · exact r3.out
                    · exact r4.out
                    · exact r5.out
                    · exact r6.out)
                  (lo := 0) ⟨_, _, by omega, Hlie.out.1, ⟨_, _, by omega, Hlie.out.2.1, ⟨_, _, by omega, Hlie.out.2.2.1, ⟨_, _, by omega, Hlie.out.2.2.2, ⟨_, _, by omega, L6.out, trivial, by omega⟩, by omega⟩, by omega⟩, by omega⟩, by omega⟩ rfl
                refine (apart_any _ wc.heap.size _ _ hst (by simp; omega) (by simp) ?_).mono ?_
                · intro j q hq
                  have := List.mem_of_getElem? hq
                  simp only [List.mem_cons, List.mem_nil_iff, or_false] at this
                  rcases this with rfl | rfl | rfl | rfl | rfl <;> simp <;> omega
                rintro e w13 ⟨rfl, hb13⟩
                go_wp2_with fail
                go_ret
                exact ⟨rfl, (below_alloc HW12.out _).trans hb13⟩
end Go.Proofs.Ytblfmofhfbbmdaa
