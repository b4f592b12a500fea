/- The walk of wicketlaw02.Apart: lists that share no memory. Made from the octet seat's by program. -/
import Derived.Test.YtblfmofhfbbmdaaDoorApart3
import Derived.Test.YtblfmofhfbbmdaaDoorOct1
set_option linter.unusedVariables false
set_option linter.unusedSimpArgs false
namespace Go.Proofs.YtblfmofhfbbmdaaDoor
open Go.RowKit

theorem info23 : (Tryd.prog.info? 25).map (fun i => (i.zero, i.size, i.bytes)) = some (some (.slice none 0 0), 1, 24) := by kernel_rfl
/-- What list i is marked with, and what it is grown with. -/
def markA (i : Nat) : Int := ((i : Int) + 1) % 256
def markB (i : Nat) : Int := ((i : Int) + 1) % 256
def pat (n i m : Nat) : List Int := List.replicate n (markA i) ++ List.replicate m (markB i)
theorem pat_length (n i m : Nat) : (pat n i m).length = n + m := by simp [pat]
theorem pat_succ (n i m : Nat) : pat n i m ++ [markB i] = pat n i (m + 1) := by
  rw [pat, pat, List.append_assoc, List.replicate_succ']

def lenAt (cu : List Item) (j : Nat) : Nat := ((cu[j]?).map fun q => q.2.length).getD 0
def tl (cu : List Item) (r : Nat) : List Int := pat (lenAt cu r) r 16
theorem tl_at (cu : List Item) (i : Nat) {q : Item} (hq : cu[i]? = some q) : tl cu i = pat q.2.length i 16 := by
  rw [tl, lenAt, hq]; rfl
theorem pat_lo (n i m t : Nat) (h : t < n) : (pat n i m)[t]?.getD 0 = markA i := by
  rw [pat, List.getElem?_append_left (by simpa using h)]; simp [h]
theorem pat_hi (n i m t : Nat) (h : n ≤ t) (h2 : t < n + m) : (pat n i m)[t]?.getD 0 = markB i := by
  rw [pat, List.getElem?_append_right (by simpa using h)]
  have : t - n < m := by omega
  simp [this]
theorem oi_push {k : IntKind} {e : TypeId} {w : World} {base : Nat} {v : Value} {n : Nat} {xs : List Int} {y : Int} (hn : xs.length = n) (h : w.ownsRow base e 1 v (n + 1) (nums k xs ++ [.int k y])) : OI k e w base v (xs ++ [y]) := by
  unfold OI
  rw [nums_append, List.length_append, hn]
  exact h
theorem oi_own {k : IntKind} {e : TypeId} {w : World} {base : Nat} {v : Value} {n : Nat} {xs : List Int} (h : OI k e w base v xs) (hn : xs.length = n) : w.ownsRow base e 1 v n (nums k xs) := by
  subst hn; exact h

set_option maxRecDepth 100000 in
set_option maxHeartbeats 4000000 in
theorem apart_any (w : World) (base : Nat) (l : Value) (its : List Item) (hst : St .u8 5 25 base w l its) (hbase : base ≤ w.heap.size) (hn : its.length ≤ 1000)
    (hit : ∀ (j : Nat) (q : Item), its[j]? = some q → q.2.length ≤ 140737488355000) :
    Calls Tryd.prog 43 #[l] w fun e w' => e = .returned (.bool true) ∧ Below base w w' := by
  obtain ⟨A, c, rfl, hc, hn2⟩ := own_shape hst.box
  have hp0 : Ph1 .u8 5 25 markA 140737488355000 base w w (.slice A its.length c) its.length 0 its := ⟨rfl, hst, hit, fun j q hj => by omega, Below.refl _ _⟩
  have Hp0 := Lib.hid hp0
  generalize its.length = n at *
  clear hp0 hst hit
  go_enter Tryd.func43, Tryd.ntmps43
  go_wp2
  go_loopw [3, 4] (fun s3 s4 wr => ∃ (i : Nat) (cu : List Item), s3 = .int .i64 (i : Int) ∧ i ≤ n ∧ Hid (Ph1 .u8 5 25 markA 140737488355000 base w wr (.slice A n c) n i cu)) (fun s3 _ _ => n - (intOf s3).toNat)
  case atStart => exact ⟨0, its, rfl, Nat.zero_le _, Hp0⟩
  case round =>
    obtain ⟨i, cu, rfl, hi, Hp⟩ := hrel
    by_cases hlt : i < n
    · obtain ⟨v, L, hvi, hLB, hown⟩ := Hp.out.at hlt
      obtain ⟨g, rfl, hnc, -⟩ := Hp.out.cell hvi rfl
      obtain ⟨Av, cv, rfl, hcv, -⟩ := own_shape hown
      obtain ⟨nL, hnL⟩ : ∃ nL, L.length = nL := ⟨_, rfl⟩
      have HnL := Lib.hid hnL
      have Hvi := Lib.hid hvi
      rw [hnL] at hvi hcv hLB
      have Hstart : Hid (Ph1 .u8 5 25 markA 140737488355000 base w wr (.slice (some ⟨g, 0, none⟩) n c) n i cu ∧ cu[i]? = some (.slice Av nL cv, L) ∧ L.length = nL ∧ L.take 0 = List.replicate 0 (markA i)) := ⟨Hp.out, hvi, hnL, by simp⟩
      clear hvi hown hnL Hp Hp0 Hvi
      go_wp2
      go_loopw [4] (fun s4 wr => ∃ (t : Nat) (cu : List Item) (L : List Int), s4 = .int .i64 (t : Int) ∧ t ≤ nL ∧ Hid (Ph1 .u8 5 25 markA 140737488355000 base w wr (.slice (some ⟨g, 0, none⟩) n c) n i cu ∧ cu[i]? = some (.slice Av nL cv, L) ∧ L.length = nL ∧ L.take t = List.replicate t (markA i))) (fun s4 _ => nL - (intOf s4).toNat)
      case atStart => exact ⟨0, cu, L, rfl, Nat.zero_le _, Hstart⟩
      case round =>
        clear Hstart HnL
        obtain ⟨t, cu, L, rfl, ht, H⟩ := hrel
        obtain ⟨g', e', -, hbc⟩ := H.out.1.cell H.out.2.1 rfl
        cases e'
        by_cases htl : t < nL
        · obtain ⟨gv, cap, ev, -, -, -, -⟩ := (H.out.1.st.it i _ H.out.2.1).form (by rw [H.out.2.2.1]; omega)
          simp only [Value.slice.injEq] at ev
          obtain ⟨rfl, -, rfl⟩ := ev
          have hfree := (H.out.1.st.it i _ H.out.2.1).free t
          have hcl := (H.out.1.st.it i _ H.out.2.1).cell t (by rw [H.out.2.2.1]; omega)
          generalize L[t]?.getD 0 = old at hcl
          have Hw := Lib.hid (H.out.1.write (by decide) hbase H.out.2.1 t (by rw [H.out.2.2.1]; omega) H.out.2.2.2)
          have HL := Lib.hid (show (L.set t (markA i)).length = nL by rw [List.length_set]; exact H.out.2.2.1)
          clear H
          go_wp2
          go_roundw
          case rel => exact ⟨t + 1, _, _, by go_num, by omega, Hw.out.1, Hw.out.2.1, HL.out, Hw.out.2.2⟩
          case measure => simp [intOf]; omega
        · obtain rfl : t = nL := by omega
          have Hn := Lib.hid (H.out.1.next H.out.2.1 (by rw [H.out.2.2.1]; exact H.out.2.2.2))
          clear H
          go_wp2
          go_roundw
          case rel => exact ⟨i + 1, _, by go_num, by omega, Hn⟩
          case measure => simp [intOf]; omega
    · obtain rfl : i = n := by omega
      clear Hp0 hi hlt
      have hcl := Hp.out.len
      have Hcl := Lib.hid hcl
      have Hph : Hid (Ph2 .u8 5 25 base w wr (.slice A i c) (cu.map Prod.fst) (.slice none 0 0) [] (cu.drop 0) [] ∧ Told cu (tl cu) 0 [] []) := ⟨⟨Reg.start (by rw [List.length_map]; exact Hp.out.st.box), by rw [List.drop_zero]; exact Hp.out.st.pool, Hp.out.below⟩, ⟨fun j q hj => by omega, fun r u hu => by simp at hu⟩⟩
      have Hmark := Lib.hid (show ∀ (j : Nat) (q : Item), cu[j]? = some q → q.2 = pat q.2.length j 0 ∧ q.2.length ≤ 140737488355000 from fun j q hq => ⟨by rw [pat]; simpa using Hp.out.mark j q (by have := (List.getElem?_eq_some_iff.1 hq).1; omega) hq, Hp.out.small j q hq⟩)
      clear Hp hcl
      generalize i = n at *
      go_wp2
      go_loopw [5, 6, 7, 8] (fun s5 s6 s7 s8 wr => ∃ (i : Nat) (us : List Value) (R : List Item), s6 = .int .i64 (i : Int) ∧ i ≤ n ∧ us.length = i ∧ Hid (Ph2 .u8 5 25 base w wr (.slice A n c) (cu.map Prod.fst) s5 us (cu.drop i) R ∧ Told cu (tl cu) i us R)) (fun _ s6 _ _ _ => n - (intOf s6).toNat)
      case atStart => exact ⟨0, [], [], rfl, Nat.zero_le _, rfl, Hph⟩
      case round =>
        clear Hph
        obtain ⟨i, us, R, rfl, hi, hus, H⟩ := hrel
        by_cases hlt : i < n
        · obtain ⟨g, cap, e0, -, -, hbx⟩ := own_cells H.out.1.reg.box (by rw [List.length_map, Hcl.out]; omega)
          rw [List.length_map, Hcl.out] at e0
          simp only [Value.slice.injEq] at e0
          obtain ⟨rfl, -, rfl⟩ := e0
          obtain ⟨q, hq⟩ : ∃ q, cu[i]? = some q := ⟨_, List.getElem?_eq_getElem (by rw [Hcl.out]; exact hlt)⟩
          have hcell := hbx i q.1 (by rw [List.getElem?_map, hq]; rfl)
          have hdr : cu.drop i = q :: cu.drop (i + 1) := by
            have hl : i < cu.length := (List.getElem?_eq_some_iff.1 hq).1
            rw [List.drop_eq_getElem_cons hl, ← (List.getElem?_eq_some_iff.1 hq).2]
          obtain ⟨v, L⟩ := q
          obtain ⟨hL, hLB⟩ := Hmark.out i _ hq
          simp only at hL hLB hcell
          have hown : OI .u8 5 wr base v L := H.out.1.pool.left (v, L) (by rw [hdr]; simp)
          obtain ⟨Av, cv, rfl, hcv, -⟩ := own_shape hown
          obtain ⟨nL, hnL⟩ : ∃ nL, L.length = nL := ⟨_, rfl⟩
          rw [hnL] at hL hLB hcv hcell hdr hq
          subst hL
          have HG : Hid (Gr .u8 5 25 base w wr (.slice (some ⟨g, 0, none⟩) n c) (cu.map Prod.fst) u5 us (.slice Av nL cv) (pat nL i 0) (cu.drop (i + 1)) ((.slice Av nL cv, pat nL i 0) :: R) ∧ (((.slice Av nL cv, pat nL i 0) : Item) ∈ ((.slice Av nL cv, pat nL i 0) : Item) :: R) ∧ Told cu (tl cu) (i + 1) us ((.slice Av nL cv, pat nL i 0) :: R)) := by
            have h1 := H.out.1
            rw [hdr] at h1
            exact ⟨h1.start, by simp, H.out.2.next hq⟩
          have Htl := Lib.hid (show tl cu i = pat nL i 16 by rw [tl_at cu i hq, hnL])
          clear hnL hq hdr hbx H hown
          go_wp2
          go_loopw [7, 8] (fun s7 s8 wr => ∃ (kk : Nat) (R : List Item) (Ax : Option Addr) (cx : Nat), s8 = .int .i64 (kk : Int) ∧ kk ≤ 16 ∧ s7 = .slice Ax (nL + kk) cx ∧ Hid (Gr .u8 5 25 base w wr (.slice (some ⟨g, 0, none⟩) n c) (cu.map Prod.fst) u5 us (.slice Ax (nL + kk) cx) (pat nL i kk) (cu.drop (i + 1)) R ∧ (((.slice Ax (nL + kk) cx, pat nL i kk) : Item) ∈ R) ∧ Told cu (tl cu) (i + 1) us R)) (fun _ s8 _ => 16 - (intOf s8).toNat)
          case atStart => exact ⟨0, _, Av, cv, rfl, by omega, rfl, HG⟩
          case round =>
            clear HG hcell
            obtain ⟨kk, R, Ax, cx, rfl, hkk, rfl, H⟩ := hrel
            by_cases hk80 : kk < 16
            · have hB : base ≤ wr.heap.size := by have := H.out.1.below.size; omega
              have Hown := Lib.hid (oi_own H.out.1.chain.own (pat_length nL i kk))
              have Hlen := Lib.hid (show (nL + kk + 1) * 1 ≤ 140737488355328 by omega)
              have HB := Lib.hid hB
              go_wp2_with (at_builtin; refine wpList_push rfl (.tmp 49) (.tmp 53) 25 5 (.int .u8 0) 1 rfl Tryd.underlying25 oinfo5 rfl (by decide) base _ (nL + kk) (nums .u8 (pat nL i kk)) (.int .u8 (((i : Int) + 1) % 256)) rfl rfl rfl Hown.out Hlen.out HB.out ?_; intro x1 w1 ho1 hg1; obtain ⟨A1, c1, rfl, -, -⟩ := own_shape ho1; have HG1 := Lib.hid (H.out.1.push (by decide) hbase (oi_push (pat_length nL i kk) ho1) hg1); clear ho1 hg1)
              go_roundw
              case rel =>
                refine ⟨kk + 1, ((.slice A1 (nL + kk + 1) c1, pat nL i (kk + 1)) : Item) :: R, A1, c1, by go_num, by omega, rfl, ?_, ?_, ?_⟩
                · have h9 := HG1.out
                  rw [show pat nL i kk ++ [((i : Int) + 1) % 256] = pat nL i (kk + 1) from pat_succ nL i kk] at h9
                  exact h9
                · simp [Nat.add_assoc]
                · exact H.out.2.2.more _
              case measure => simp [intOf]; omega
            · obtain rfl : kk = 16 := by omega
              have Hlen2 := Lib.hid (show (us.length + 1) * 24 ≤ 140737488355328 by omega)
              go_wp2_with (at_builtin; refine wpList_push rfl (.tmp 55) (.tmp 57) 30 25 (.slice none 0 0) 24 rfl Tryd.underlying30 info23 rfl (by decide) base _ us.length us (.slice Ax (nL + 16) cx) rfl rfl rfl H.out.1.reg.long Hlen2.out (Nat.le_trans hbase H.out.1.below.size) ?_; intro lv2 w2 ho2 hg2; have HG2 := Lib.hid (H.out.1.long (by decide) hbase ho2 hg2); clear ho2 hg2)
              go_roundw
              case rel =>
                refine ⟨i + 1, us ++ [.slice Ax (nL + 16) cx], R, by go_num, by omega, by simp; omega, HG2.out.stop, ?_⟩
                refine H.out.2.2.add ?_
                rw [hus, Htl.out]
                exact H.out.2.1
              case measure => simp [intOf]; omega
        · obtain rfl : i = n := by omega
          have hb9 := Lib.hid H.out.1.below
          have Hus := Lib.hid (show ∀ r, r < i → ∃ u, us[r]? = some u ∧ OI .u8 5 wr base u (tl cu r) from fun r hr => ⟨us[r], List.getElem?_eq_getElem (by omega), (H.out.1.pool.told _ (H.out.2.2 r _ (List.getElem?_eq_getElem (by omega)))).1⟩)
          have Hcu := Lib.hid (show ∀ j, j < i → ∃ v L, cu[j]? = some (v, L) ∧ OI .u8 5 wr base v L ∧ L = pat L.length j 0 ∧ L.length ≤ 140737488355000 from fun j hj => by
            have hl : j < cu.length := by rw [Hcl.out]; exact hj
            have h1 := List.getElem?_eq_getElem hl
            exact ⟨cu[j].1, cu[j].2, h1, (H.out.1.pool.told _ (H.out.2.1 j _ hj h1)).1, Hmark.out j _ h1⟩)
          have hlong := H.out.1.reg.long
          rw [hus] at hlong
          have hboxo := H.out.1.reg.box
          rw [List.length_map, Hcl.out] at hboxo
          obtain ⟨Al, cl, rfl, hcl, -⟩ := own_shape hlong
          have Hlong := Lib.hid hlong
          have Hboxo := Lib.hid hboxo
          clear H Hmark hlong hboxo
          generalize i = n at *
          go_wp2
          go_loop [9, 10] (fun s9 s10 => ∃ i : Nat, s9 = .int .i64 (i : Int) ∧ i ≤ n) (fun s9 _ => n - (intOf s9).toNat)
          case atStart => exact ⟨0, rfl, Nat.zero_le _⟩
          case round =>
            obtain ⟨i, rfl, hi⟩ := hrel
            by_cases hlt : i < n
            · obtain ⟨g, cap, e0, -, -, hbx⟩ := own_cells Hboxo.out (by omega)
              simp only [Value.slice.injEq] at e0
              obtain ⟨rfl, -, rfl⟩ := e0
              obtain ⟨gl, capl, e1, -, -, hlx⟩ := own_cells Hlong.out (by omega)
              simp only [Value.slice.injEq] at e1
              obtain ⟨rfl, -, rfl⟩ := e1
              obtain ⟨v, L, hq, hown, hL, hLB⟩ := Hcu.out i hlt
              have hcell := hbx i v (by rw [List.getElem?_map, hq]; rfl)
              obtain ⟨Av, cv, rfl, hcv, -⟩ := own_shape hown
              obtain ⟨nL, hnL⟩ : ∃ nL, L.length = nL := ⟨_, rfl⟩
              rw [hnL] at hL hLB hcv hcell hq
              subst hL
              obtain ⟨u, hu, hou⟩ := Hus.out i hlt
              rw [tl_at cu i hq, hnL] at hou
              have hcu := hlx i u hu
              obtain ⟨Au, cu', rfl, hcu', -⟩ := own_shape hou
              rw [pat_length] at hcu hcu' hou
              have Hown := Lib.hid (show ∀ t, t < nL → ∃ gv, Av = some ⟨gv, 0, none⟩ ∧ wr.cell? ⟨gv, t, none⟩ = some (.int .u8 (((i : Int) + 1) % 256)) from fun t ht => by
                obtain ⟨gv, capv, ev, -, -, -, -⟩ := hown.form (by rw [hnL]; omega)
                simp only [Value.slice.injEq] at ev
                obtain ⟨rfl, -, -⟩ := ev
                refine ⟨gv, rfl, ?_⟩
                have := hown.cell t (by rw [hnL]; exact ht)
                rwa [pat_lo nL i 0 t ht] at this)
              have Hou := Lib.hid (show ∀ k, k < nL + 16 → ∃ gv, Au = some ⟨gv, 0, none⟩ ∧ wr.cell? ⟨gv, k, none⟩ = some (.int .u8 (((i : Int) + 1) % 256)) from fun k hk2 => by
                obtain ⟨gv, capv, ev, -, -, -, -⟩ := hou.form (by rw [pat_length]; omega)
                simp only [Value.slice.injEq] at ev
                obtain ⟨rfl, -, -⟩ := ev
                refine ⟨gv, rfl, ?_⟩
                have := hou.cell k (by rw [pat_length]; exact hk2)
                by_cases hk : k < nL
                · rwa [pat_lo nL i 16 k hk] at this
                · rwa [pat_hi nL i 16 k (by omega) hk2] at this)
              clear hbx hlx hq hown hnL hu hou
              go_wp2
              go_loop [10] (fun s10 => ∃ t : Nat, s10 = .int .i64 (t : Int) ∧ t ≤ nL + 16) (fun s10 => nL + 16 - (intOf s10).toNat)
              case atStart => exact ⟨0, rfl, Nat.zero_le _⟩
              case round =>
                obtain ⟨t, rfl, ht⟩ := hrel
                by_cases htl : t < nL + 16
                · obtain ⟨gu, rfl, hv1⟩ := Hou.out t htl
                  by_cases htn : t < nL
                  · obtain ⟨gv, rfl, hv⟩ := Hown.out t htn
                    go_wp2
                    go_round
                    case rel => exact ⟨t + 1, by go_num, by omega⟩
                    case measure => simp [intOf]; omega
                  · go_wp2
                    go_round
                    case rel => exact ⟨t + 1, by go_num, by omega⟩
                    case measure => simp [intOf]; omega
                · obtain rfl : t = nL + 16 := by omega
                  go_wp2
                  go_round
                  case rel => exact ⟨i + 1, by go_num, by omega⟩
                  case measure => simp [intOf]; omega
            · obtain rfl : i = n := by omega
              go_wp2
              go_ret
              exact ⟨rfl, hb9.out⟩
end Go.Proofs.YtblfmofhfbbmdaaDoor
