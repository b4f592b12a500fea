/- The walk of the law SuperHands: it returns true, and nothing that was there has turned. -/
import Derived.Test.YtblfmofhfbbmdaaDoorHands1
import Derived.Test.YtblfmofhfbbmdaaDoorSupH
import Derived.Test.YtblfmofhfbbmdaaDoorSup3
import Derived.Test.YtblfmofhfbbmdaaDoorTable2
import Derived.BigQuiet
set_option linter.unusedVariables false
set_option linter.unusedSimpArgs false
namespace Go.Proofs.YtblfmofhfbbmdaaDoor
open Go.RowKit Crc

theorem svar_new (t : TypeId) (w : World) (s : Sup) : SAt t ((w.alloc (.cells Sup.zero.cells t)).setRow w.heap.size s.cells) w.heap.size s ∧ Below w.heap.size w ((w.alloc (.cells Sup.zero.cells t)).setRow w.heap.size s.cells) :=
  ⟨(SAt.new t w Sup.zero).set, Below.setRow' (below_alloc (Below.refl _ _) _) (Nat.le_refl _) _⟩
/-- Which one is handed out. -/
def who (S T : Sup) (i : Nat) : Sup := if i = 2 then T else S
theorem who_sup {S T : Sup} (hS : SupOk S) (hT : SupOk T) (i : Nat) : SupOk (who S T i) := by unfold who; split <;> assumption
theorem who_ok {S T : Sup} (hS : S.ok) (hT : T.ok) (i : Nat) : (who S T i).ok := by unfold who; split <;> assumption
def texts (S T : Sup) (i : Nat) : List Value := (List.range i).map fun j => .string (strOfNums (enc7 (who S T j)))
theorem texts_length (S T : Sup) (i : Nat) : (texts S T i).length = i := by simp [texts]
theorem texts_get (S T : Sup) (i j : Nat) (h : j < i) : (texts S T i)[j]? = some (.string (strOfNums (enc7 (who S T j)))) := by simp [texts, h]
theorem texts_next (S T : Sup) (i : Nat) : texts S T i ++ [.string (strOfNums (enc7 (who S T i)))] = texts S T (i + 1) := by
  rw [texts, texts, List.range_succ, List.map_append]; rfl

set_option maxRecDepth 100000 in
set_option maxHeartbeats 8000000 in
theorem superHands_sup (s t : Sup) (w : World) (hs : s.ok) (ht : t.ok) (hT : Tabs w) :
    Calls Tryd.prog 10 #[.agg s.cells, .agg t.cells] w fun e w' => e = .returned (.bool true) ∧ Below w.heap.size w w' := by
  have Ht := Lib.hid hT.1
  have Hw := Lib.hid hT.2
  have HA := Lib.hid ((SAt.new 51 w s).below (below_alloc (Below.refl _ _) (.cells t.cells 51)))
  have hz := SAt.new 51 (w.alloc (.cells s.cells 51)) t
  rw [World.size_alloc] at hz
  have HB := Lib.hid hz
  have hb0 := Lib.hid (below_alloc (below_alloc (Below.refl w.heap.size w) (.cells s.cells 51)) (.cells t.cells 51))
  have hxk := mayS_sup s
  have hyk := mayS_sup t
  have hxo := mayS_ok s
  have hyo := mayS_ok t
  obtain ⟨S, hS⟩ : ∃ S, mayS s = S := ⟨_, rfl⟩
  obtain ⟨T, hTe⟩ : ∃ T, mayS t = T := ⟨_, rfl⟩
  rw [hS] at hxk hxo
  rw [hTe] at hyk hyo
  have HS := Lib.hid hS
  have HTe := Lib.hid hTe
  have Hxk := Lib.hid hxk
  have Hyk := Lib.hid hyk
  have Hxo := Lib.hid hxo
  have Hyo := Lib.hid hyo
  have Hs := Lib.hid hs
  have Ht' := Lib.hid ht
  clear hz hT hS hTe hxk hyk hxo hyo hs ht
  go_enter Tryd.func10, Tryd.ntmps10
  go_wp2_with fail
  refine (awake_any _ (Ht.out.below hb0.out) (Hw.out.below hb0.out)).mono ?_
  rintro e w1 ⟨rfl, hb1⟩
  have HA1 := Lib.hid (HA.out.below hb1)
  have HB1 := Lib.hid (HB.out.below hb1)
  have Hw1 := Lib.hid (below_then hb0.out hb1)
  clear hb1 HA HB hb0
  go_wp2_with fail
  go_loopw [5, 6, 7, 8, 9, 10] (fun s5 s6 s7 s8 s9 s10 wr => ∃ (i : Nat) (its : List Item), s7 = .int .i64 (i : Int) ∧ i ≤ 5 ∧ its.length = i ∧ Hid (∀ (j : Nat) (q : Item), its[j]? = some q → q.2 = enc7 (who S T j)) ∧ Hid (St .u8 5 25 w1.heap.size wr s5 its) ∧ Hid (wr.ownsRow w1.heap.size 9 1 s6 i (texts S T i)) ∧ Hid (Below w1.heap.size w1 wr)) (fun _ _ s7 _ _ _ _ => 5 - (intOf s7).toNat)
  case atStart => exact ⟨0, [], rfl, by omega, rfl, fun j q h => by simp at h, ⟨World.ownsRow_nil _ _ _ _, fun j q h => by simp at h, fun j j' q q' _ h => by simp at h⟩, World.ownsRow_nil _ _ _ _, Below.refl _ _⟩
  case round =>
    obtain ⟨i, its, rfl, hi, hil, Hit, Hst, Hwr, Hb⟩ := hrel
    by_cases hlt : i < 5
    · have HAr := Lib.hid (HA1.out.below Hb.out)
      have hgrow := Lib.hid Hb.out.size
      go_wp2_with (first
        | (refine go_value (o := ⟨some 29, _, _, _, _, _⟩) (by rfl) (ex_load HAr.out.load51 rfl rfl) ?_)
        | fail)
      refine (may_any s _ Hs.out).mono ?_
      rw [HS.out]
      rintro e w2 ⟨rfl, hb2⟩
      have hv2 := svar_new 54 w2 S
      have HZ2 := Lib.hid (SAt.new 54 w2 Sup.zero)
      have HX := Lib.hid hv2.1
      have Hq := Lib.hid (below_then hb2 hv2.2)
      have Hg8 := Lib.hid hb2.size
      clear hv2 hb2
      go_upto_if 32 with (first
        | (refine go_value (o := ⟨_, .alloc 54, _, _, _, _⟩) (by rfl) (ex_alloc (run_alloc54 _) rfl) ?_)
        | (refine go_skip (o := ⟨none, .store 54 _ _, _, _, _, _⟩) (by rfl) (ex_store (HZ2.out.store54 (s := S)) rfl rfl rfl) ?_)
        | fail)
      obtain ⟨g8, hg8⟩ : ∃ g8, w2.heap.size = g8 := ⟨_, rfl⟩
      rw [hg8] at HX Hq Hg8 ⊢
      generalize (w2.alloc (.cells Sup.zero.cells 54)).setRow g8 S.cells = w3 at HX Hq ⊢
      clear hg8 HZ2 HAr
      have HBr := Lib.hid (HB1.out.below (below_then Hb.out Hq.out))
      go_cut [8] from 25 to 56 (fun s8 wx => ∃ g8, s8 = .pointer (some ⟨g8, 0, none⟩) ∧ Hid (SAt 54 wx g8 (who S T i)) ∧ Hid (Below wr.heap.size wr wx))
      case first =>
        by_cases h2 : i = 2
        · subst h2
          go_wp2_with (first
            | (refine go_value (o := ⟨some 33, _, _, _, _, _⟩) (by rfl) (ex_load HBr.out.load51 rfl rfl) ?_)
            | fail)
          refine (may_any t _ Ht'.out).mono ?_
          rw [HTe.out]
          rintro e w4 ⟨rfl, hb4⟩
          have HX4 := Lib.hid (HX.out.below hb4)
          have Hq4 := Lib.hid (below_then Hq.out hb4)
          clear hb4 HX Hq
          go_wp2_with (first
            | (refine go_skip (o := ⟨none, .store 54 _ _, _, _, _, _⟩) (by rfl) (ex_store (HX4.out.store54 (s := T)) rfl rfl rfl) ?_)
            | fail)
          go_meet
          case rel => exact ⟨g8, rfl, HX4.out.set, Below.setRow' Hq4.out Hg8.out _⟩
        · have h2' : ((i : Int) == 2) = false := by simp; omega
          go_wp2_with fail
          go_meet
          case rel => exact ⟨g8, rfl, Lib.hid (by rw [who, if_neg h2]; exact HX.out), Hq⟩
      case rest =>
        clear HX Hq Hg8 HBr
        obtain ⟨g9, rfl, HX, Hq⟩ := hcut
        have Hb2 := Lib.hid (below_then Hb.out Hq.out)
        have Htr := Lib.hid (Ht.out.below (below_then Hw1.out Hb2.out))
        have Hwd := Lib.hid (Hw.out.below (below_then Hw1.out Hb2.out))
        have Hxs := Lib.hid (who_sup Hxk.out Hyk.out i)
        have Hxok := Lib.hid (who_ok Hxo.out Hyo.out i)
        go_wp2_with (first
          | (refine go_value (o := ⟨some 36, _, _, _, _, _⟩) (by rfl) (ex_load HX.out.load54 rfl rfl) ?_)
          | fail)
        refine (sencode_any (who S T i) _ Hxok.out Htr.out Hwd.out).mono ?_
        rw [supE_ok Hxs.out, show encS (who S T i) = enc7 (who S T i) from if_pos Hxs.out]
        rintro e w5 ⟨v5, rfl, ho5, hb5⟩
        obtain ⟨g5, c5, rfl, -, hc5, -, -⟩ := ho5.form (by rw [enc7_length]; omega)
        rw [enc7_length] at ho5 hc5 ⊢
        have hcv := conv_str ho5.reads
        have Hcv := Lib.hid hcv
        have Hq5 := Lib.hid (below_then Hq.out hb5)
        have Hst5 := Lib.hid (Hst.out.below Hq5.out)
        have Hwr5 := Lib.hid (own_below Hwr.out Hq5.out)
        have Hb5 := Lib.hid (below_then Hb.out Hq5.out)
        have Ho5 := Lib.hid (show OB w5 wr.heap.size (.slice (some ⟨g5, 0, none⟩) 64 c5) (enc7 (who S T i)) from ho5.lower Hq.out.size)
        have Hl24 := Lib.hid (show (its.length + 1) * 24 ≤ 140737488355328 by omega)
        have Hl16 := Lib.hid (show (i + 1) * 16 ≤ 140737488355328 by omega)
        have Hsz5 := Lib.hid Hb5.out.size
        clear hcv ho5 hb5 HX Htr Hwd
        go_wp2_with first
          | (go_at_call 34; (with_reducible refine (snum_any _ _).mono ?_); rintro e w' ⟨rfl, rfl⟩)
          | (at_builtin; refine wpList_push rfl (.tmp 48) (.tmp 50) 30 25 (.slice none 0 0) 24 rfl Tryd.underlying30 info23 rfl (by decide) w1.heap.size _ its.length (its.map Prod.fst) (.slice (some ⟨g5, 0, none⟩) 64 c5) rfl rfl rfl Hst5.out.box Hl24.out Hsz5.out ?_; intro lv w6 ho6 hg6; have Hst6 := Lib.hid (Hst.out.add (by decide) Hq5.out Hb.out.size Ho5.out.oi ho6 hg6.grown); have Hwr6 := Lib.hid (World.ownsRow.kept Hwr5.out hg6.grown (own_unlike Hwr5.out Hst5.out.box (by decide))); have Hb6 := Lib.hid (grew_below Hb5.out (Nat.le_refl _) Hst5.out.box hg6); have Ho6 := Lib.hid (Ho5.out.kept hg6.grown (own_unlike Ho5.out.1 Hst5.out.box (by decide))); have hcv6 := conv_str Ho6.out.reads; have Hsz6 := Lib.hid Hb6.out.size; clear ho6 hg6)
          | (at_builtin; refine wpList_push rfl (.tmp 52) (.tmp 55) 60 9 (.string ByteArray.empty) 16 rfl Tryd.underlying60 info9 rfl (by decide) w1.heap.size _ i (texts S T i) (.string (strOfNums (enc7 (who S T i)))) rfl rfl rfl Hwr6.out Hl16.out Hsz6.out ?_; intro lw w7 ho7 hg7; have Hst7 := Lib.hid (Hst6.out.kept (by decide) (by decide) Hwr6.out hg7.grown); have Hwr7 := Lib.hid (show w7.ownsRow w1.heap.size 9 1 lw (i + 1) (texts S T (i + 1)) by rw [← texts_next]; exact ho7); have Hb7 := Lib.hid (grew_below Hb6.out (Nat.le_refl _) Hwr6.out hg7); clear ho7 hg7)
        go_roundw
        case rel =>
          refine ⟨i + 1, its ++ [(.slice (some ⟨g5, 0, none⟩) 64 c5, enc7 (who S T i))], by go_num, by omega, by simp [hil], fun j q hq => ?_, Hst7, Hwr7, Hb7⟩
          by_cases hj : j < its.length
          · rw [List.getElem?_append_left hj] at hq
            exact Hit.out j q hq
          · have hje : j = its.length := by
              have := (List.getElem?_eq_some_iff.1 hq).1
              simp at this; omega
            subst hje
            simp at hq
            subst hq
            rw [hil]
        case measure => simp [intOf]; omega
    · obtain rfl : i = 5 := by omega
      rw [show ((5 : Nat) : Int) = 5 from rfl]
      obtain ⟨wB, rfl⟩ : ∃ wB, wB = wr := ⟨_, rfl⟩
      obtain ⟨gl, cl, e5, -, -, hbx⟩ := own_cells Hst.out.box (by omega)
      rw [hil] at e5
      subst e5
      obtain ⟨gw, cw, e6, -, -, hwx⟩ := own_cells Hwr.out (by omega)
      subst e6
      have Hcell := Lib.hid (show ∀ j, j < 5 → ∃ g c, wB.cell? ⟨gl, j, none⟩ = some (.slice (some ⟨g, 0, none⟩) 64 c) ∧ RBy wB (.slice (some ⟨g, 0, none⟩) 64 c) (enc7 (who S T j)) ∧ wB.cell? ⟨gw, j, none⟩ = some (.string (strOfNums (enc7 (who S T j)))) from fun j hj => by
        have hl : j < its.length := by omega
        have hq := List.getElem?_eq_getElem hl
        have h1 := Hst.out.it j _ hq
        have h2 := Hit.out j _ hq
        obtain ⟨q, hqe⟩ : ∃ q, its[j] = q := ⟨_, rfl⟩
        rw [hqe] at hq h1 h2
        obtain ⟨v, L⟩ := q
        simp only at h1 h2
        subst h2
        have ho : OB wB w1.heap.size v (enc7 (who S T j)) := ⟨h1, enc7_isB (who_sup Hxk.out Hyk.out j)⟩
        obtain ⟨g, c, rfl, -, -, -, -⟩ := ho.form (by rw [enc7_length]; omega)
        rw [enc7_length] at hq ho
        exact ⟨g, c, hbx j _ (by rw [List.getElem?_map, hq]; rfl), ho.reads, hwx j _ (texts_get S T 5 j hj)⟩)
      have Hlens := Lib.hid (show ∀ (j : Nat) (q : Item), its[j]? = some q → q.2.length = 64 from fun j q hq => by rw [Hit.out j q hq, enc7_length])
      clear hbx hwx hi hlt Hit
      go_wp2_with fail
      go_loopw [59, 11] (fun s59 s11 wr => ∃ j : Nat, s59 = .int .i64 (j : Int) ∧ j ≤ 5 ∧ Hid (Below wB.heap.size wB wr)) (fun s59 _ _ => 5 - (intOf s59).toNat)
      case atStart => exact ⟨0, rfl, by omega, Below.refl _ _⟩
      case round =>
        obtain ⟨j, rfl, hj, Hbx⟩ := hrel
        by_cases hlt : j < 5
        · obtain ⟨g, c, hc0, hr0, hw0⟩ := Hcell.out j hlt
          have hc := keep_cell Hbx.out (Nat.le_refl _) hc0
          have hw := keep_cell Hbx.out (Nat.le_refl _) hw0
          have hcv := fun k => conv_str ((hr0.below Hbx.out).below (below_drewN (Below.refl _ _) k))
          generalize strOfNums (enc7 (who S T j)) = tx at hw hcv
          clear hc0 hr0 hw0
          go_wp2
          go_quiet (fail)
          go_wp2
          go_roundw
          case rel => exact ⟨j + 1, by go_num, by omega, below_drewN Hbx.out _⟩
          case measure => simp [intOf]; omega
        · obtain rfl : j = 5 := by omega
          rw [show ((5 : Nat) : Int) = 5 from rfl]
          obtain ⟨wC, rfl⟩ : ∃ wC, wC = wr := ⟨_, rfl⟩
          have HwrC := Lib.hid (own_below Hwr.out Hbx.out)
          have Hp0 : Hid (Ph1 .u8 5 25 markA 64 w1.heap.size w1 wC (.slice (some ⟨gl, 0, none⟩) 5 cl) 5 0 its) := ⟨hil, Hst.out.below Hbx.out, fun j q hq => by rw [Hlens.out j q hq]; omega, fun j q hj => by omega, below_then Hb.out Hbx.out⟩
          have hbase := Nat.le_refl w1.heap.size
          clear Hst Hwr Hb Hbx Hcell hil
          go_wp2_with fail
          go_loopw [75, 12, 13] (fun s75 s12 s13 wr => ∃ (i : Nat) (cu : List Item), s75 = .int .i64 (i : Int) ∧ i ≤ 5 ∧ Hid (Ph1 .u8 5 25 markA 64 w1.heap.size w1 wr (.slice (some ⟨gl, 0, none⟩) 5 cl) 5 i cu) ∧ Hid (∀ (j : Nat) (q : Item), cu[j]? = some q → q.2.length = 64) ∧ Hid (wr.ownsRow w1.heap.size 9 1 (.slice (some ⟨gw, 0, none⟩) 5 cw) 5 (texts S T 5))) (fun s75 _ _ _ => 5 - (intOf s75).toNat)
          case atStart => exact ⟨0, its, rfl, by omega, Hp0, Hlens, HwrC⟩
          case round =>
            clear Hp0 Hlens HwrC
            obtain ⟨i, cu, rfl, hi, Hp, Hln, Hwr⟩ := hrel
            by_cases hlt : i < 5
            · obtain ⟨v, L, hvi, hLB, hown⟩ := Hp.out.at hlt
              have hL64 : L.length = 64 := Hln.out i _ hvi
              obtain ⟨gl', e', -, hcell⟩ := Hp.out.cell hvi rfl
              cases e'
              obtain ⟨g, c, rfl, -, -, -, -⟩ := hown.form (by rw [hL64]; omega)
              rw [hL64] at hvi hcell
              have Hstart : Hid (Ph1 .u8 5 25 markA 64 w1.heap.size w1 wr (.slice (some ⟨gl, 0, none⟩) 5 cl) 5 i cu ∧ cu[i]? = some (.slice (some ⟨g, 0, none⟩) 64 c, L) ∧ L.length = 64 ∧ L.take 0 = List.replicate 0 (markA i) ∧ ∀ (j : Nat) (q : Item), cu[j]? = some q → q.2.length = 64) := ⟨Hp.out, hvi, hL64, by simp, Hln.out⟩
              clear hvi hown hLB Hp Hln
              go_wp2_with fail
              go_loopw [83, 13] (fun s83 s13 wr => ∃ (t : Nat) (cu : List Item) (L : List Int), s83 = .int .i64 (t : Int) ∧ t ≤ 64 ∧ Hid (Ph1 .u8 5 25 markA 64 w1.heap.size w1 wr (.slice (some ⟨gl, 0, none⟩) 5 cl) 5 i cu ∧ cu[i]? = some (.slice (some ⟨g, 0, none⟩) 64 c, L) ∧ L.length = 64 ∧ L.take t = List.replicate t (markA i) ∧ ∀ (j : Nat) (q : Item), cu[j]? = some q → q.2.length = 64) ∧ Hid (wr.ownsRow w1.heap.size 9 1 (.slice (some ⟨gw, 0, none⟩) 5 cw) 5 (texts S T 5))) (fun s83 _ _ => 64 - (intOf s83).toNat)
              case atStart => exact ⟨0, cu, L, rfl, by omega, Hstart, Hwr⟩
              case round =>
                clear Hstart Hwr hL64 hcell
                obtain ⟨t, cu, L, rfl, ht, H, Hwr⟩ := hrel
                obtain ⟨gl', e', -, hbc⟩ := H.out.1.cell H.out.2.1 rfl
                cases e'
                by_cases htl : t < 64
                · have hmA : (i : Int) + 1 = markA i := by unfold markA; omega
                  have HmA := Lib.hid hmA
                  clear hmA
                  have hfree := (H.out.1.st.it i _ H.out.2.1).free t
                  have hcl := (H.out.1.st.it i _ H.out.2.1).cell t (by rw [H.out.2.2.1]; omega)
                  generalize L[t]?.getD 0 = old at hcl
                  have Hw2 := Lib.hid (H.out.1.write (by decide) hbase H.out.2.1 t (by rw [H.out.2.2.1]; omega) H.out.2.2.2.1)
                  have HL := Lib.hid (show (L.set t (markA i)).length = 64 by rw [List.length_set]; exact H.out.2.2.1)
                  have Hln2 := Lib.hid (show ∀ (j : Nat) (q : Item), (cu.set i (.slice (some ⟨g, 0, none⟩) 64 c, L.set t (markA i)))[j]? = some q → q.2.length = 64 from fun j q hq => by
                    rw [List.getElem?_set] at hq
                    by_cases hij : i = j
                    · subst hij
                      rw [if_pos rfl, if_pos (List.getElem?_eq_some_iff.1 H.out.2.1).1] at hq
                      cases hq
                      exact HL.out
                    · rw [if_neg hij] at hq
                      exact H.out.2.2.2.2 j q hq)
                  have hne : (Value.slice (some ⟨gw, 0, none⟩) 5 cw).ownBlock ≠ some g := by
                    rcases own_unlike Hwr.out (H.out.1.st.it i _ H.out.2.1) (by decide) with h1 | h1
                    · simp [Value.ownBlock] at h1
                    · exact h1
                  have Hwr2 := Lib.hid (ownsRow_setCell_other (a := ⟨g, t, none⟩) Hwr.out hne (.int .u8 (markA i)))
                  clear H Hwr hne
                  go_wp2_with fail
                  go_roundw
                  case rel =>
                    rw [HmA.out]
                    exact ⟨t + 1, _, _, by go_num, by omega, ⟨Hw2.out.1, Hw2.out.2.1, HL.out, Hw2.out.2.2, Hln2.out⟩, Hwr2⟩
                  case measure => simp [intOf]; omega
                · obtain rfl : t = 64 := by omega
                  have Hn := Lib.hid (H.out.1.next H.out.2.1 (by rw [H.out.2.2.1]; exact H.out.2.2.2.1))
                  have Hln2 := Lib.hid H.out.2.2.2.2
                  clear H hbc
                  go_wp2_with fail
                  go_roundw
                  case rel => exact ⟨i + 1, _, by go_num, by omega, Hn, Hln2, Hwr⟩
                  case measure => simp [intOf]; omega
            · obtain rfl : i = 5 := by omega
              rw [show ((5 : Nat) : Int) = 5 from rfl]
              obtain ⟨R0, hG0⟩ := Gw.start Hp.out Hln.out (by omega) Hwr.out
              have hvl : (cu.map Prod.fst).length = 5 := by rw [List.length_map]; exact Hp.out.len
              obtain ⟨vs, hvs⟩ : ∃ vs, cu.map Prod.fst = vs := ⟨_, rfl⟩
              rw [hvs] at hG0 hvl
              have HG0 := Lib.hid hG0
              have Hvl := Lib.hid hvl
              clear hG0 hvl hvs Hp Hln Hwr hi hlt
              go_wp2_with fail
              go_loopw [14, 15, 16, 17, 18, 103] (fun s14 s15 s16 s17 s18 s103 wr => ∃ (n : Nat) (us : List Value) (R : List Mk), s15 = .int .i64 (n : Int) ∧ 1 ≤ n ∧ n ≤ 17 ∧ us.length + 5 = 5 * n ∧ Hid (Gw w1.heap.size w1 wr (.slice (some ⟨gl, 0, none⟩) 5 cl) vs s14 us (.slice (some ⟨gw, 0, none⟩) 5 cw) 5 (texts S T 5) R)) (fun _ s15 _ _ _ _ _ => 17 - (intOf s15).toNat)
              case atStart => exact ⟨1, [], R0, rfl, by omega, by omega, rfl, HG0⟩
              case round =>
                clear HG0
                obtain ⟨n, us, R, rfl, hn1, hn17, hus, H⟩ := hrel
                by_cases hlt : n < 17
                · have hle : n ≤ 16 := by omega
                  go_wp2_with fail
                  rw [show decide ((n : Int) ≤ 16) = true from decide_eq_true (by omega)]
                  go_loopw [14, 16, 17, 18, 103] (fun s14 s16 s17 s18 s103 wr => ∃ (i : Nat) (us : List Value) (R : List Mk), s103 = .int .i64 (i : Int) ∧ i ≤ 5 ∧ us.length + 5 = 5 * n + i ∧ Hid (Gw w1.heap.size w1 wr (.slice (some ⟨gl, 0, none⟩) 5 cl) vs s14 us (.slice (some ⟨gw, 0, none⟩) 5 cw) 5 (texts S T 5) R)) (fun _ _ _ _ s103 _ => 5 - (intOf s103).toNat)
                  case atStart => exact ⟨0, us, R, rfl, by omega, by omega, H⟩
                  case round =>
                    clear H hus
                    obtain ⟨i, us, R, rfl, hi, hus, H⟩ := hrel
                    by_cases hlti : i < 5
                    · obtain ⟨gl', cap, e0, -, -, hbx⟩ := own_cells H.out.reg.box (by rw [Hvl.out]; omega)
                      rw [Hvl.out] at e0
                      simp only [Value.slice.injEq, Option.some.injEq, Addr.mk.injEq] at e0
                      obtain ⟨⟨rfl, -⟩, -, rfl⟩ := e0
                      obtain ⟨v, hvi⟩ : ∃ v, vs[i]? = some v := ⟨_, List.getElem?_eq_getElem (show i < vs.length by rw [Hvl.out]; exact hlti)⟩
                      have hcell := hbx i v hvi
                      have hmA : markA i = (i : Int) + 1 := by unfold markA; omega
                      have hmem := H.out.first i v hvi
                      have hown : OI .u8 5 wr w1.heap.size v (List.replicate 64 (markA i)) := H.out.fam.own _ hmem
                      obtain ⟨g, c, rfl, -, -, -, -⟩ := hown.form (by simp)
                      simp only [List.length_replicate] at hcell hmem
                      rw [hmA] at hmem
                      have HmA := Lib.hid hmA
                      have HM : Hid (Gw w1.heap.size w1 wr (.slice (some ⟨gl, 0, none⟩) 5 cl) vs u14 us (.slice (some ⟨gw, 0, none⟩) 5 cw) 5 (texts S T 5) R ∧ (⟨.slice (some ⟨g, 0, none⟩) 64 c, 64 + 0, (i : Int) + 1⟩ : Mk) ∈ R) := ⟨H.out, hmem⟩
                      clear hbx hvi hmA hmem hown H
                      go_wp2_with fail
                      rw [show decide ((i : Int) < 5) = true from decide_eq_true (by omega)]
                      go_loopw [17, 18] (fun s17 s18 wr => ∃ (kk : Nat) (R : List Mk), s18 = .int .i64 (kk : Int) ∧ kk ≤ 80 ∧ Hid (Gw w1.heap.size w1 wr (.slice (some ⟨gl, 0, none⟩) 5 cl) vs u14 us (.slice (some ⟨gw, 0, none⟩) 5 cw) 5 (texts S T 5) R ∧ (⟨s17, 64 + kk, (i : Int) + 1⟩ : Mk) ∈ R)) (fun _ s18 _ => 80 - (intOf s18).toNat)
                      case atStart => exact ⟨0, R, rfl, by omega, HM⟩
                      case round =>
                        clear HM hcell
                        obtain ⟨kk, R, rfl, hkk, H⟩ := hrel
                        have hown := H.out.1.fam.own _ H.out.2
                        have Hown := Lib.hid (oi_own hown (show (List.replicate (64 + kk) ((i : Int) + 1)).length = 64 + kk by simp))
                        obtain ⟨Ax, cx, rfl, -, -⟩ := own_shape Hown.out
                        have Hlen := Lib.hid (show (64 + kk + 1) * 1 ≤ 140737488355328 by omega)
                        have HB := Lib.hid (show w1.heap.size ≤ wr.heap.size from H.out.1.below.size)
                        have Hl24 := Lib.hid (show (us.length + 1) * 24 ≤ 140737488355328 by omega)
                        have Hmem := Lib.hid (show (⟨.slice Ax (64 + kk) cx, 64 + kk, markA (us.length % 5)⟩ : Mk) ∈ R by
                          rw [show us.length % 5 = i by omega, HmA.out]; exact H.out.2)
                        clear hown
                        by_cases hk1 : kk < n
                        · skip
                          go_wp2_with (at_builtin; refine wpList_push2 rfl (.tmp 123) (.tmp 127) 25 5 (.int .u8 0) 1 rfl Tryd.underlying25 oinfo5 rfl (by decide) w1.heap.size _ (64 + kk) (nums .u8 (List.replicate (64 + kk) ((i : Int) + 1))) (.int .u8 ((i : Int) + 1)) rfl rfl rfl Hown.out Hlen.out HB.out ?_; intro x2 w2 ho2 hg2; have HG2 := Lib.hid (H.out.1.push hbase H.out.2 ho2 hg2); clear ho2 hg2)
                          go_roundw
                          case rel => exact ⟨kk + 1, (⟨x2, 64 + kk + 1, (i : Int) + 1⟩ : Mk) :: R, by go_num, by omega, ⟨HG2.out, List.mem_cons_self⟩⟩
                          case measure => simp [intOf]; omega
                        · by_cases h16 : n = 16
                          · have h16' : ((n : Int) == 16) = true := by simp; omega
                            have h16'' : decide ((n : Int) = 16) = true := by simp; omega
                            clear h16
                            by_cases hk2 : kk < 80
                            · skip
                              go_wp2_with (at_builtin; refine wpList_push2 rfl (.tmp 123) (.tmp 127) 25 5 (.int .u8 0) 1 rfl Tryd.underlying25 oinfo5 rfl (by decide) w1.heap.size _ (64 + kk) (nums .u8 (List.replicate (64 + kk) ((i : Int) + 1))) (.int .u8 ((i : Int) + 1)) rfl rfl rfl Hown.out Hlen.out HB.out ?_; intro x2 w2 ho2 hg2; have HG2 := Lib.hid (H.out.1.push hbase H.out.2 ho2 hg2); clear ho2 hg2)
                              go_roundw
                              case rel => exact ⟨kk + 1, (⟨x2, 64 + kk + 1, (i : Int) + 1⟩ : Mk) :: R, by go_num, by omega, ⟨HG2.out, List.mem_cons_self⟩⟩
                              case measure => simp [intOf]; omega
                            · skip
                              go_wp2_with (at_builtin; refine wpList_push rfl (.tmp 129) (.tmp 131) 30 25 (.slice none 0 0) 24 rfl Tryd.underlying30 info23 rfl (by decide) w1.heap.size _ us.length us (.slice Ax (64 + kk) cx) rfl rfl rfl H.out.1.reg.long Hl24.out HB.out ?_; intro lv2 w2 ho2 hg2; have HG2 := Lib.hid (H.out.1.add hbase ho2 hg2 Hmem.out (by omega)); clear ho2 hg2)
                              go_roundw
                              case rel => exact ⟨i + 1, us ++ [.slice Ax (64 + kk) cx], R, by go_num, by omega, by simp; omega, HG2⟩
                              case measure => simp [intOf]; omega
                          · have h16' : ((n : Int) == 16) = false := by simp; omega
                            have h16'' : decide ((n : Int) = 16) = false := by simp; omega
                            go_wp2_with (at_builtin; refine wpList_push rfl (.tmp 129) (.tmp 131) 30 25 (.slice none 0 0) 24 rfl Tryd.underlying30 info23 rfl (by decide) w1.heap.size _ us.length us (.slice Ax (64 + kk) cx) rfl rfl rfl H.out.1.reg.long Hl24.out HB.out ?_; intro lv2 w2 ho2 hg2; have HG2 := Lib.hid (H.out.1.add hbase ho2 hg2 Hmem.out (by omega)); clear ho2 hg2)
                            go_roundw
                            case rel => exact ⟨i + 1, us ++ [.slice Ax (64 + kk) cx], R, by go_num, by omega, by simp; omega, HG2⟩
                            case measure => simp [intOf]; omega
                    · obtain rfl : i = 5 := by omega
                      go_wp2_with fail
                      go_roundw
                      case rel => exact ⟨n + 1, us, R, by go_num, by omega, by omega, by omega, H⟩
                      case measure => simp [intOf]; omega
                · have h80 : us.length = 80 := by omega
                  obtain rfl : n = 17 := by omega
                  rw [show ((17 : Nat) : Int) = 17 from rfl]
                  obtain ⟨wE, rfl⟩ : ∃ wE, wE = wr := ⟨_, rfl⟩
                  obtain ⟨g14, c14, e14, -, -, hlx⟩ := own_cells H.out.reg.long (by omega)
                  rw [h80] at e14
                  subst e14
                  have Hcell := Lib.hid (show ∀ r, r < 80 → ∃ Au m c, wE.cell? ⟨g14, r, none⟩ = some (.slice Au m c) ∧ m ≤ c ∧ m ≤ 200 ∧ ∀ t, t < m → ∃ gv, Au = some ⟨gv, 0, none⟩ ∧ wE.cell? ⟨gv, t, none⟩ = some (.int .u8 (((r % 5 : Nat) : Int) + 1)) from fun r hr => by
                    obtain ⟨u, hu⟩ : ∃ u, us[r]? = some u := ⟨_, List.getElem?_eq_getElem (by omega)⟩
                    obtain ⟨m, hm, hmem⟩ := H.out.long r u hu
                    have hown : OI .u8 5 wE w1.heap.size u (List.replicate m (markA (r % 5))) := H.out.fam.own _ hmem
                    obtain ⟨Au, c, rfl, hmc, -⟩ := own_shape (oi_own hown (show (List.replicate m (markA (r % 5))).length = m by simp))
                    refine ⟨Au, m, c, hlx r _ hu, hmc, hm, fun t ht => ?_⟩
                    obtain ⟨gv, capv, ev, -, -, -, -⟩ := hown.form (by simp; omega)
                    simp only [Value.slice.injEq] at ev
                    obtain ⟨rfl, -, rfl⟩ := ev
                    refine ⟨gv, rfl, ?_⟩
                    have h9 := hown.cell t (by simpa using ht)
                    rw [h9]
                    have hmk : markA (r % 5) = ((r % 5 : Nat) : Int) + 1 := by unfold markA; omega
                    simp [ht, hmk])
                  obtain ⟨gw', cw', e6, -, -, hwx⟩ := own_cells H.out.were (by omega)
                  simp only [Value.slice.injEq, Option.some.injEq, Addr.mk.injEq] at e6
                  obtain ⟨⟨rfl, -⟩, -, rfl⟩ := e6
                  have Hw0 := Lib.hid (hwx 0 _ (texts_get S T 5 0 (by omega)))
                  have HbE := Lib.hid H.out.below
                  clear hlx hwx H hus hlt hn1 hn17
                  go_wp2_with fail
                  go_loopw [136, 19, 20, 144] (fun s136 s19 s20 s144 wr => ∃ r : Nat, s136 = .int .i64 (r : Int) ∧ r ≤ 80 ∧ Hid (Below wE.heap.size wE wr)) (fun s136 _ _ _ _ => 80 - (intOf s136).toNat)
                  case atStart => exact ⟨0, rfl, by omega, Below.refl _ _⟩
                  case round =>
                    obtain ⟨r, rfl, hr, Hbx⟩ := hrel
                    by_cases hlt : r < 80
                    · obtain ⟨Au, m, c, hc0, hmc, hm, hts⟩ := Hcell.out r hlt
                      have hc := keep_cell Hbx.out (Nat.le_refl _) hc0
                      have Hts := Lib.hid hts
                      have Hc0 := Lib.hid hc0
                      have hrem : (r : Int).tmod 5 = ((r % 5 : Nat) : Int) := by
                        rw [Int.tmod_eq_emod_of_nonneg (by omega)]; omega
                      obtain ⟨a5, ha5⟩ : ∃ a5, r % 5 = a5 := ⟨_, rfl⟩
                      rw [ha5] at hrem Hts
                      have ha5l : a5 < 5 := by omega
                      clear hc0 hts
                      go_wp2_with fail
                      rw [show decide ((r : Int) < 80) = true from decide_eq_true (by omega)]
                      go_loopw [144, 20] (fun s144 s20 wr => ∃ t : Nat, s144 = .int .i64 (t : Int) ∧ t ≤ m ∧ Hid (Below wE.heap.size wE wr)) (fun s144 _ _ => m - (intOf s144).toNat)
                      case atStart => exact ⟨0, rfl, by omega, Hbx⟩
                      case round =>
                        clear Hbx hc
                        obtain ⟨t, rfl, ht, Hbx⟩ := hrel
                        by_cases htl : t < m
                        · obtain ⟨gv, rfl, hv0⟩ := Hts.out t htl
                          have hc := keep_cell Hbx.out (Nat.le_refl _) Hc0.out
                          have hv := keep_cell Hbx.out (Nat.le_refl _) hv0
                          clear hv0
                          go_wp2
                          go_quiet (fail)
                          go_wp2
                          go_roundw
                          case rel => exact ⟨t + 1, by go_num, by omega, below_drewN Hbx.out _⟩
                          case measure => simp [intOf]; omega
                        · obtain rfl : t = m := by omega
                          go_wp2_with fail
                          go_roundw
                          case rel => exact ⟨r + 1, by go_num, by omega, Hbx⟩
                          case measure => simp [intOf]; omega
                    · obtain rfl : r = 80 := by omega
                      have HbF := Lib.hid (below_then HbE.out Hbx.out)
                      have HAF := Lib.hid (HA1.out.below HbF.out)
                      have hwF := keep_cell Hbx.out (Nat.le_refl _) Hw0.out
                      rw [show who S T 0 = S from rfl] at hwF
                      have HWF := Lib.hid (below_then Hw1.out HbF.out)
                      have HwF := Lib.hid hwF
                      clear Hcell Hw0 HbE Hbx hwF HbF HA1 HB1 hr hlt
                      go_wp2_with (first
                        | (refine go_value (o := ⟨some 164, _, _, _, _, _⟩) (by rfl) (ex_load HAF.out.load51 rfl rfl) ?_)
                        | fail)
                      refine (may_any s _ Hs.out).mono ?_
                      rw [HS.out]
                      rintro e w10 ⟨rfl, hb10⟩
                      have HW10 := Lib.hid (below_then HWF.out hb10)
                      have Hw10 := Lib.hid (keep_cell hb10 (Nat.le_refl _) HwF.out)
                      clear hb10 HWF HwF HAF
                      go_wp2_with fail
                      refine (sencode_any S _ Hxo.out (Ht.out.below HW10.out) (Hw.out.below HW10.out)).mono ?_
                      rw [supE_ok Hxk.out, show encS S = enc7 S from if_pos Hxk.out]
                      rintro e w11 ⟨v11, rfl, ho11, hb11⟩
                      obtain ⟨A11, c11, rfl, -⟩ := ho11.reads.form
                      have hcv := fun k => conv_str (ho11.reads.below (below_drewN (Below.refl _ _) k))
                      rw [enc7_length] at hcv ⊢
                      have hw11 := keep_cell hb11 (Nat.le_refl _) Hw10.out
                      have HW11 := Lib.hid (below_then HW10.out hb11)
                      generalize strOfNums (enc7 S) = tx at hcv hw11
                      have Hq := Lib.hid (show ∀ n, Calls Tryd.prog 34 #[.int .i64 0] (w11.drewN n) fun e w' => e = .returned (.int .i64 0) ∧ w' = w11.drewN n from fun n => (snum_any 0 _).mono fun e w' h => ⟨h.1, h.2.symm⟩)
                      clear HW10 Hw10 hb11 ho11
                      go_wp2_with fail
                      go_quiet ((go_at_call 34; exact Calls.quiet_of_same (Hq.out _)))
                      go_wp2_with fail
                      go_ret
                      exact ⟨rfl, below_drewN HW11.out _⟩
theorem superHands_walk (v : Value) (s : Sup) (u : Value) (t : Sup) (w : World) (hv : v = .agg s.cells ∧ s.ok) (hu : u = .agg t.cells ∧ t.ok) (ht : Tabs w) :
    Calls Tryd.prog 10 #[v, u] w fun e w' => e = .returned (.bool true) ∧ Below w.heap.size w w' := by
  obtain ⟨rfl, hs⟩ := hv
  obtain ⟨rfl, ht'⟩ := hu
  exact superHands_sup s t w hs ht' ht
end Go.Proofs.YtblfmofhfbbmdaaDoor
