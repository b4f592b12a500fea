/- The reference's Encode of a superblock; what is read of bytes. -/
import Derived.Test.YtblfmofhfbbmdaaDoorSupD
import Derived.Test.YtblfmofhfbbmdaaDoorRec7
set_option linter.unusedVariables false
set_option linter.unusedSimpArgs false
namespace Go.Proofs.YtblfmofhfbbmdaaDoor
open Go.RowKit Crc

theorem lowS_ok {s : Sup} (h : SupOk s) : lowS s = s := by
  obtain ⟨⟨a, b, c, d, e⟩, -, -, -⟩ := h
  obtain ⟨x1, x2, x3, x4, x5, x6, x7⟩ := s
  simp only [] at a b c d e
  simp only [lowS, Sup.mk.injEq, and_true]
  refine ⟨?_, ?_, ?_, ?_, ?_⟩ <;> omega
set_option maxRecDepth 100000 in
set_option maxHeartbeats 2000000 in
theorem rsencode_any (s : Sup) (w : World) (hs : s.ok) :
    Calls Tryd.prog 47 #[.agg s.cells] w fun e w' => ∃ v', e = .returned (.tuple #[v', .int .i64 (supE s)]) ∧ OB w' w.heap.size v' (encS s) ∧ Below w.heap.size w w' := by
  have HA := Lib.hid (SAt.new 51 w s)
  have hb0 := Lib.hid (below_alloc (Below.refl w.heap.size w) (.cells s.cells 51))
  by_cases hk : SupOk s
  · have hE := supE_ok hk
    have hV : encS s = enc7 (lowS s) := by rw [encS, if_pos hk, lowS_ok hk]
    have HE := Lib.hid hE
    rw [hE, hV]
    clear hE hV hk
    go_enter Tryd.func47, Tryd.ntmps47
    go_wp2_with (refine go_value (o := ⟨some 5, _, _, _, _, _⟩) (by rfl) (ex_load HA.out.load51 rfl rfl) ?_)
    refine (rcheck_any s _ hs).mono ?_
    rw [HE.out]
    rintro e w1 ⟨rfl, hb1⟩
    have HA1 := HA.out.below hb1
    have hb1' := below_then hb0.out hb1
    go_wp2_with (refine go_value (o := ⟨some 10, _, _, _, _, _⟩) (by rfl) (ex_load HA1.load51 rfl rfl) ?_)
    refine (slaid_any s _ hs).mono ?_
    rintro e w2 ⟨v, rfl, ho, hb2⟩
    go_wp2_with fail
    go_ret2
    exact ⟨_, rfl, ho.lower hb1'.size, below_then hb1' hb2⟩
  · have hE : encS s = [] := if_neg hk
    have hne := supE_no hk
    obtain ⟨ex, hex⟩ : ∃ ex, supE s = ex := ⟨_, rfl⟩
    have Hex := Lib.hid hex
    rw [hE, hex]
    rw [hex] at hne
    have hne2 : (ex == 0) = false := by simpa using hne
    clear hex hE hk
    go_enter Tryd.func47, Tryd.ntmps47
    go_wp2_with (refine go_value (o := ⟨some 5, _, _, _, _, _⟩) (by rfl) (ex_load HA.out.load51 rfl rfl) ?_)
    refine (rcheck_any s _ hs).mono ?_
    rw [Hex.out]
    rintro e w1 ⟨rfl, hb1⟩
    go_wp2_with fail
    go_ret2
    exact ⟨_, rfl, OB.nil _ _, below_then hb0.out hb1⟩

/-- What is read of bytes. -/
def sdecR (b : List Int) : Sup := ⟨b[8]?.getD 0, b[9]?.getD 0, b[10]?.getD 0, b[11]?.getD 0, b[12]?.getD 0, numU ((b.drop 16).take 8), numU ((b.drop 24).take 8)⟩
def sdecOk (b : List Int) : Prop := b.length = 64 ∧ SupOk (sdecR b) ∧ enc7 (sdecR b) = b
instance (b : List Int) : Decidable (sdecOk b) := by unfold sdecOk; infer_instance
def sdecV (b : List Int) : Sup := if sdecOk b then sdecR b else Sup.zero
def sdecE (b : List Int) : Int := if b.length = 64 then (if sdecOk b then 0 else 70) else 2
theorem isB_at {xs : List Int} (h : IsB xs) (j : Nat) : 0 ≤ xs[j]?.getD 0 ∧ xs[j]?.getD 0 < 256 := by
  by_cases hj : j < xs.length
  · rw [List.getElem?_eq_getElem hj]; exact h _ (List.getElem_mem hj)
  · rw [List.getElem?_eq_none (by omega)]; decide
theorem sdecR_ok (b : List Int) (h : IsB b) : (sdecR b).ok := by
  have hb := fun j : Nat => isB_at h j
  have h1 := hb 8
  have h2 := hb 9
  have h3 := hb 10
  have h4 := hb 11
  have h5 := hb 12
  have h6 := numU_range ((b.drop 16).take 8)
  have h7 := numU_range ((b.drop 24).take 8)
  refine ⟨?_, ?_, ?_, ?_, ?_, h6, h7⟩ <;> simp only [sdecR, i64ok] <;> omega
theorem sdecV_ok (b : List Int) (h : IsB b) : (sdecV b).ok := by
  unfold sdecV
  split
  · exact sdecR_ok b h
  · exact Sup.zero_ok
theorem enc7_isB {s : Sup} (h : SupOk s) : IsB (enc7 s) := by
  obtain ⟨⟨a, b, c, d, e⟩, -, -, -⟩ := h
  have h1 : IsB [1, 0, s.b, s.l, s.m, s.h, s.c, 0, 0, 0] := fun x hx => by
    simp only [List.mem_cons, List.mem_nil_iff, or_false] at hx
    rcases hx with rfl | rfl | rfl | rfl | rfl | rfl | rfl | rfl | rfl | rfl <;> omega
  unfold enc7 body7
  refine (((IsB.append (IsB.append ?_ h1) (le_isB _ _)).append (le_isB _ _)).append fun x hx => ?_).append (le_isB _ _)
  · exact isB_lit _ (by decide)
  · rw [(List.mem_replicate.1 hx).2]; omega
theorem sdecR_enc (s : Sup) (h : SupOk s) (ht : 0 ≤ s.t) : sdecR (enc7 s) = s := by
  obtain ⟨-, f, g, i⟩ := h
  have e : enc7 s = [87, 73, 67, 75, 69, 84, 1, 0, s.b, s.l, s.m, s.h, s.c, 0, 0, 0] ++ (le 8 s.t ++ (le 8 s.f ++ (List.replicate 28 0 ++ le 4 (sum (body7 s))))) := by
    simp [enc7, body7, magicL]
  have h8 : (le 8 s.t).length = 8 := le_length _ _
  have h9 : (le 8 s.f).length = 8 := le_length _ _
  have e1 : ((enc7 s).drop 16).take 8 = le 8 s.t := by
    rw [e, List.drop_append_of_le_length (by simp), show List.drop 16 [87, 73, 67, 75, 69, 84, 1, 0, s.b, s.l, s.m, s.h, s.c, 0, 0, 0] = [] from rfl, List.nil_append, List.take_append_of_le_length (by omega), List.take_of_length_le (by omega)]
  have e2 : ((enc7 s).drop 24).take 8 = le 8 s.f := by
    rw [e, show (24 : Nat) = 16 + 8 from rfl, ← List.drop_drop, List.drop_append_of_le_length (by simp), show List.drop 16 [87, 73, 67, 75, 69, 84, 1, 0, s.b, s.l, s.m, s.h, s.c, 0, 0, 0] = [] from rfl, List.nil_append, List.drop_append_of_le_length (by omega), List.drop_of_length_le (by omega), List.nil_append, List.take_append_of_le_length (by omega), List.take_of_length_le (by omega)]
  have n1 : numU (le 8 s.t) = s.t := numU_le 8 s.t (by omega) ht (by omega)
  have n2 : numU (le 8 s.f) = s.f := numU_le 8 s.f (by omega) (by omega) (by omega)
  unfold sdecR
  rw [e1, e2, n1, n2, e]
  rfl
theorem sdec_enc (s : Sup) (h : SupOk s) (ht : 0 ≤ s.t) : sdecV (enc7 s) = s ∧ sdecE (enc7 s) = 0 := by
  have hd : sdecOk (enc7 s) := ⟨enc7_length s, by rw [sdecR_enc s h ht]; exact h, by rw [sdecR_enc s h ht]⟩
  exact ⟨by rw [sdecV, if_pos hd, sdecR_enc s h ht], by rw [sdecE, if_pos (enc7_length s), if_pos hd]⟩
theorem enc7_inj {s r : Sup} (h : SupOk s) (k : SupOk r) (hs : 0 ≤ s.t) (hr : 0 ≤ r.t) : enc7 s = enc7 r ↔ s = r :=
  ⟨fun e => by rw [← sdecR_enc s h hs, e, sdecR_enc r k hr], fun e => by rw [e]⟩
end Go.Proofs.YtblfmofhfbbmdaaDoor
