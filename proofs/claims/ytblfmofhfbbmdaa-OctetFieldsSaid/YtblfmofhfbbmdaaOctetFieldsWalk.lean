/- The walk of OctetFields. -/
import Derived.Test.YtblfmofhfbbmdaaOctetTakesWalk
import Derived.Test.YtblfmofhfbbmdaaRefFields
import Derived.Test.YtblfmofhfbbmdaaSizes
import Derived.Test.YtblfmofhfbbmdaaApartK
import Derived.Test.YtblfmofhfbbmdaaApartNum
set_option linter.unusedVariables false
set_option linter.unusedSimpArgs false
namespace Go.Proofs.Ytblfmofhfbbmdaa
open Go.RowKit

theorem fieldsGo_len : ∀ (ss xs : List Int) (r : List Int × List Int), fieldsGo xs ss = some r → r.1.length = ss.length ∧ r.2.length ≤ xs.length
  | [], xs, r, h => by simp [fieldsGo] at h; subst h; simp
  | s :: ss, xs, r, h => by
    rw [fieldsGo] at h
    split at h
    · cases h
    · obtain ⟨r', h1, h2⟩ := Option.map_eq_some_iff.1 h
      obtain ⟨h3, h4⟩ := fieldsGo_len ss _ r' h1
      subst h2
      rw [List.length_drop] at h4
      refine ⟨by simp [h3], ?_⟩
      show r'.2.length ≤ _
      omega
theorem fields_len (xs ss : List Int) : (fields xs ss).1.length ≤ ss.length ∧ (fields xs ss).2.1.length ≤ xs.length := by
  unfold fields
  split
  · cases h : fieldsGo xs ss with
    | none => simp
    | some r => have := fieldsGo_len ss xs r h; simp; omega
  · simp
theorem OI.front {k : IntKind} {e : TypeId} {w : World} {base g n m cap : Nat} {xs ys : List Int} (h : OI k e w base (.slice (some ⟨g, 0, none⟩) m cap) (xs ++ ys)) (hn : xs.length = n) : OI k e w base (.slice (some ⟨g, 0, none⟩) n cap) xs := by
  subst hn
  obtain ⟨h1, h2⟩ := h
  rcases h2 with ⟨e1, h0⟩ | ⟨g', cap', cur, e1, hg, hh, hn, hm, hs, ht⟩
  · cases e1
  · simp only [Value.slice.injEq, Option.some.injEq, Addr.mk.injEq] at e1
    obtain ⟨⟨rfl, _⟩, rfl, rfl⟩ := e1
    refine ⟨by simp [nums], Or.inr ⟨g, cap, cur, rfl, hg, hh, by simp at hn; omega, hm, hs, ?_⟩⟩
    rw [Nat.mul_one] at *
    have h8 := congrArg (List.take xs.length) ht
    rw [List.take_take, Nat.min_eq_left (by simp), nums_append, List.take_left' (by simp [nums])] at h8
    exact h8
theorem OI.past {k : IntKind} {e : TypeId} {w w' : World} {base g : Nat} {v : Value} {xs : List Int} (h : OI k e w base v xs) (hg : w.grownBy w' (some g)) (hlt : g < base) : OI k e w' base v xs :=
  h.kept hg (by
    cases hv : v.ownBlock with
    | none => exact Or.inl rfl
    | some b => exact Or.inr (by have := (h.blk b hv).1; simp; omega))
theorem same_eq (v u : Value) (xs : List Int) (w : World) (hv : RI .u64 w v xs) (hu : RI .u64 w u xs) :
    Calls Try.prog 24 #[v, u] w fun e w' => e = .returned (.bool true) ∧ Below w.heap.size w w' :=
  (same_any v u xs xs w hv hu).mono fun e w' h => ⟨by rw [h.1, decide_eq_true rfl], h.2⟩

set_option maxRecDepth 100000 in
set_option maxHeartbeats 8000000 in
theorem octetFields_walk (v : Value) (xs : List Int) (vs : Value) (ss : List Int) (W : World) (hv : RBy W v xs) (hxl : xs.length ≤ 140737488351232) (hvs : RI .i64 W vs ss) (hsl : ss.length * 8 ≤ 140737488351232) (hs : ∀ s ∈ ss, -9223372036854775808 ≤ s ∧ s ≤ 9223372036854775807) :
    Calls Try.prog 6 #[v, vs] W fun e w' => e = .returned (.bool true) ∧ Below W.heap.size W w' := by
  have hT1 := fields_len xs ss
  have hT2 : (fields [9, 9, 9] [1, 1]).1.length ≤ 2 ∧ (fields [9, 9, 9] [1, 1]).2.1.length ≤ 3 := fields_len [9, 9, 9] [1, 1]
  have hT3 := fields_len (xs.map flip) ss
  rw [List.length_map] at hT3
  have Hs := Lib.hid hs
  clear hs
  go_enter Try.func6, Try.ntmps6
  go_wp2_with fail
  refine (awake_any _).mono ?_
  rintro e w0 ⟨rfl, hb0⟩
  go_wp2_with fail
  refine (rfields_any v xs vs ss _ (hv.below hb0) (hvs.below hb0) Hs.out (by omega) (by omega)).mono ?_
  generalize hT : fields xs ss = T at *
  obtain ⟨N, r, fe⟩ := T
  simp only at hT1 ⊢
  rintro e w1 ⟨n1, r1, rfl, hn1, ho1, hb1⟩
  go_wp2_with fail
  refine (roomy_any v xs _ ((hv.below hb0).below hb1) (by omega)).mono ?_
  rintro e w2 ⟨g, c, rfl, hc, hor, hb2⟩
  have hin := hor.front rfl
  go_wp2_with fail
  refine (roomySizes_any vs ss _ (((hvs.below hb0).below hb1).below hb2) (by omega)).mono ?_
  rintro e w3 ⟨gs, cs, rfl, hcs, hos, hb3⟩
  have hsz := hos.front rfl
  go_wp2_with fail
  refine (fields_any _ xs _ ss _ (hin.reads.below hb3) hsz.reads Hs.out (by omega) (by omega)).mono ?_
  rw [hT]
  rintro e w4 ⟨l4, x4, rfl, hl4, hx4, hb4⟩
  obtain ⟨Al4, kl4, rfl, -⟩ := hl4.reads.form
  obtain ⟨Ax4, kx4, rfl, -⟩ := hx4.reads.form
  have h14 := below_then hb2 (below_then hb3 hb4)
  go_wp2_with fail
  refine (same_eq _ _ N _ hl4.reads (hn1.reads.below h14)).mono ?_
  rintro e w5 ⟨rfl, hb5⟩
  have h15 := below_then h14 hb5
  have c1 := conv_str (ho1.reads.below h15)
  have c2 := conv_str (hx4.reads.below hb5)
  go_wp2_with fail
  have h25 := below_then hb3 (below_then hb4 hb5)
  have h35 := below_then hb4 hb5
  refine (fields_any _ xs _ ss _ (hin.reads.below h25) (hsz.reads.below h35) Hs.out (by omega) (by omega)).mono ?_
  rw [hT]
  rintro e w6 ⟨l6, x6, rfl, hl6, hx6, hb6⟩
  obtain ⟨Al6, kl6, rfl, -⟩ := hl6.reads.form
  obtain ⟨Ax6, kx6, rfl, -⟩ := hx6.reads.form
  go_wp2_with fail
  refine (same_eq _ _ N _ hl6.reads (hn1.reads.below (below_then h15 hb6))).mono ?_
  rintro e w7 ⟨rfl, hb7⟩
  have h17 := below_then h15 (below_then hb6 hb7)
  have c3 := conv_str (ho1.reads.below h17)
  have c4 := conv_str (hx6.reads.below hb7)
  go_wp2_with fail
  refine (fields_any _ [9, 9, 9] _ [1, 1] _ (RBy.lit _ (heap_under _ (heap_top _ _ _ rfl)) rfl (by decide) rfl (by decide)) (RI.lit [1, 1] (heap_top _ _ _ (by simp)) rfl rfl (by decide) (by decide)) (by decide) (by decide) (by decide)).mono ?_
  generalize hT' : fields [9, 9, 9] [1, 1] = T' at *
  obtain ⟨M, ro, eo⟩ := T'
  simp only at hT2 ⊢
  rintro e w8 ⟨l8, x8, rfl, hl8, hx8, hb8⟩
  obtain ⟨Al8, kl8, rfl, -⟩ := hl8.reads.form
  obtain ⟨Ax8, kx8, rfl, -⟩ := hx8.reads.form
  replace hl8 := hl8.lower (b2 := w7.heap.size) (by simp; omega)
  replace hx8 := hx8.lower (b2 := w7.heap.size) (by simp; omega)
  replace hb8 := below_then (below_alloc (below_alloc (Below.refl _ _) _) _) hb8
  go_wp2_with fail
  have h58 := below_then hb6 (below_then hb7 hb8)
  refine (fields_any _ xs _ ss _ (hin.reads.below (below_then h25 h58)) (hsz.reads.below (below_then h35 h58)) Hs.out (by omega) (by omega)).mono ?_
  rw [hT]
  rintro e w9 ⟨l9, x9, rfl, hl9, hx9, hb9⟩
  obtain ⟨Al9, kl9, rfl, -⟩ := hl9.reads.form
  obtain ⟨Ax9, kx9, rfl, -⟩ := hx9.reads.form
  have h79 := below_then hb8 hb9
  have h19 := below_then h17 h79
  go_wp2_with fail
  refine (same_eq _ _ N _ hl9.reads (hn1.reads.below h19)).mono ?_
  rintro e w10 ⟨rfl, hb10⟩
  have h1a := below_then h19 hb10
  have c5 := conv_str (ho1.reads.below h1a)
  have c6 := conv_str (hx9.reads.below hb10)
  have h69 := below_then hb7 h79
  have h49 := below_then hb5 (below_then hb6 h69)
  go_wp2_with fail
  refine (same_eq _ _ N _ (hl4.reads.below (below_then h49 hb10)) (hn1.reads.below h1a)).mono ?_
  rintro e w11 ⟨rfl, hb11⟩
  have h1b := below_then h1a hb11
  have h9b := below_then hb10 hb11
  have c7 := conv_str (ho1.reads.below h1b)
  have c8 := conv_str (hx4.reads.below (below_then h49 h9b))
  go_wp2_with fail
  refine (same_eq _ _ N _ (hl6.reads.below (below_then h69 h9b)) (hn1.reads.below h1b)).mono ?_
  rintro e w12 ⟨rfl, hb12⟩
  have h1c := below_then h1b hb12
  have h9c := below_then h9b hb12
  have c9 := conv_str (ho1.reads.below h1c)
  have c10 := conv_str (hx6.reads.below (below_then h69 h9c))
  have h2c := below_then (below_then h25 h58) (below_then hb9 h9c)
  have h3c := below_then (below_then h35 h58) (below_then hb9 h9c)
  have hBc := below_then hb0 (below_then hb1 h1c)
  go_wp2_with fail
  refine (held_any g xs.length c v xs _ (by have h9 := hor.reads.below h2c; simpa using h9) rfl hc (hv.below hBc)).mono ?_
  rintro e w13 ⟨rfl, hb13⟩
  go_wp2_with fail
  refine (heldSizes_any gs ss.length cs vs ss _ (by have h9 := hos.reads.below (below_then h3c hb13); simpa using h9) rfl hcs (hvs.below (below_then hBc hb13))).mono ?_
  rintro e w14 ⟨rfl, hb14⟩
  clear c1 c2 c3 c4 c5 c6 c7 c8 c9 c10
  have h9e := below_then h9c (below_then hb13 hb14)
  have h2e := below_then h2c (below_then hb13 hb14)
  have h3e := below_then h3c (below_then hb13 hb14)
  have h4e := below_then h49 h9e
  have h6e := below_then h69 h9e
  have h8e := below_then hb9 h9e
  have hBe := below_then hBc (below_then hb13 hb14)
  clear h9c h2c h3c hBc h1c h1b h1a h9b h19 h17 h15 h14
  have s0 := hb0.size
  have s1 := hb1.size
  have s2 := hb2.size
  have s3 := hb3.size
  have s4 := hb4.size
  have s5 := hb5.size
  have s6 := hb6.size
  have s7 := hb7.size
  have s8 := hb8.size
  have s9 := hb9.size
  have s9e := h9e.size
  go_wp2_with fail
  refine (turn_any _ xs _ w1.heap.size (hin.below h2e) (by omega) (by omega)).mono ?_
  rintro e w15 ⟨rfl, ho15, hg15⟩
  have hgb := hor.blk g rfl
  have hg15 : w14.grownBy w15 (some g) := hg15
  have hx4' := (hx4.below h4e).past hg15 (by omega)
  have hx6' := (hx6.below h6e).past hg15 (by omega)
  have hx8' := (hx8.below h8e).past hg15 (by omega)
  have hx9' := (hx9.below h9e).past hg15 (by omega)
  have hl4' := (hl4.below h4e).past hg15 (by omega)
  have hl6' := (hl6.below h6e).past hg15 (by omega)
  have hl8' := (hl8.below h8e).past hg15 (by omega)
  have hl9' := (hl9.below h9e).past hg15 (by omega)
  have hsz' := (hsz.below h3e).past hg15 (by omega)
  have hvs' := Lib.hid (hvs.below hBe)
  have hB15 : Below W.heap.size W w15 := hBe.grown hg15 hBe.size (fun j hj => by
    have e9 : g = j := by simpa [Value.ownBlock] using hj
    omega)
  have s15 := hg15.size
  clear hBe hg15
  go_wp2_with fail
  refine (own_any _ (xs.map flip) _ (by have h9 := ho15.reads; exact h9) (by simp; omega)).mono ?_
  rintro e w16 ⟨v16, rfl, ho16, hb16⟩
  go_wp2_with fail
  refine (rfields_any _ (xs.map flip) _ ss _ ho16.reads (hvs.below (below_then hB15 hb16)) Hs.out (by simp; omega) (by omega)).mono ?_
  generalize hT'' : fields (xs.map flip) ss = T'' at *
  obtain ⟨N2, ur, ue⟩ := T''
  simp only at hT3 ⊢
  rintro e w17 ⟨n17, r17, rfl, hn17, ho17, hb17⟩
  have h1517 := below_then hb16 hb17
  go_wp2_with fail
  refine (fields_any _ (xs.map flip) _ ss _ (ho15.reads.below h1517) (hsz'.reads.below h1517) Hs.out (by simp; omega) (by omega)).mono ?_
  rw [hT'']
  rintro e w18 ⟨l18, x18, rfl, hl18, hx18, hb18⟩
  obtain ⟨Al18, kl18, rfl, -⟩ := hl18.reads.form
  obtain ⟨Ax18, kx18, rfl, -⟩ := hx18.reads.form
  go_wp2_with fail
  refine (same_eq _ _ N2 _ hl18.reads (hn17.reads.below hb18)).mono ?_
  rintro e w19 ⟨rfl, hb19⟩
  have d1 := conv_str ((ho17.reads.below hb18).below hb19)
  have d2 := conv_str (hx18.reads.below hb19)
  have h1519 := below_then h1517 (below_then hb18 hb19)
  have hB19 := below_then hB15 h1519
  have s16 := hb16.size
  have s17 := hb17.size
  have s18 := hb18.size
  have s19 := hb19.size
  go_wp2_with fail
  have hst := St.made (k := .u8) (e := 5) (T := 23) (base := W.heap.size) (w := w19) (its := [(.slice Ax4 r.length kx4, r), (.slice Ax6 r.length kx6, r), (.slice Ax8 ro.length kx8, ro), (.slice Ax9 r.length kx9, r), (.slice Ax18 ur.length kx18, ur)]) (by omega) (by simp)
    (by
      intro q hq
      simp only [List.mem_cons, List.mem_nil_iff, or_false] at hq
      rcases hq with rfl | rfl | rfl | rfl | rfl
      · exact ((hx4'.below h1519).lower (by omega)).oi
      · exact ((hx6'.below h1519).lower (by omega)).oi
      · exact ((hx8'.below h1519).lower (by omega)).oi
      · exact ((hx9'.below h1519).lower (by omega)).oi
      · exact ((hx18.below hb19).lower (by omega)).oi)
    (lo := 0) ⟨_, _, by omega, hx4.lies, ⟨_, _, by omega, hx6.lies, ⟨_, _, by omega, hx8.lies, ⟨_, _, by omega, hx9.lies, ⟨_, _, by omega, hx18.lies, trivial, by omega⟩, by omega⟩, by omega⟩, by omega⟩, by omega⟩ rfl
  refine (K.apart_any _ W.heap.size _ _ hst (by simp; omega) (by simp) ?_).mono ?_
  · intro j q hq
    have := List.mem_of_getElem? hq
    simp only [List.mem_cons, List.mem_nil_iff, or_false] at this
    rcases this with rfl | rfl | rfl | rfl | rfl <;> simp <;> omega
  rintro e w20 ⟨rfl, hb20, hk20⟩
  have s20 := hb20.size
  simp only [World.size_alloc] at s20
  have keep : ∀ (q : Value) (L : List Int), OI .u64 27 w19 W.heap.size q L → OI .u64 27 w20 W.heap.size q L := fun q L hq =>
    hk20 27 q _ _ (by decide) (by decide) (hq.below (below_alloc (Below.refl _ _) _))
  have n4 := keep _ _ ((hl4'.below h1519).lower (by omega))
  have n6 := keep _ _ ((hl6'.below h1519).lower (by omega))
  have n8 := keep _ _ ((hl8'.below h1519).lower (by omega))
  have n9 := keep _ _ ((hl9'.below h1519).lower (by omega))
  have n18 := keep _ _ ((hl18.below hb19).lower (by omega))
  have hB20 : Below W.heap.size W w20 := (below_alloc hB19 _).trans hb20
  clear keep hk20 d1 d2
  go_wp2_with fail
  have hst2 := St.made (k := .u64) (e := 27) (T := 30) (base := W.heap.size) (w := w20) (its := [(.slice Al4 N.length kl4, N), (.slice Al6 N.length kl6, N), (.slice Al8 M.length kl8, M), (.slice Al9 N.length kl9, N), (.slice Al18 N2.length kl18, N2)]) (by omega) (by simp)
    (by
      intro q hq
      simp only [List.mem_cons, List.mem_nil_iff, or_false] at hq
      rcases hq with rfl | rfl | rfl | rfl | rfl
      · exact n4
      · exact n6
      · exact n8
      · exact n9
      · exact n18)
    (lo := 0) ⟨_, _, by omega, hl4.lies, ⟨_, _, by omega, hl6.lies, ⟨_, _, by omega, hl8.lies, ⟨_, _, by omega, hl9.lies, ⟨_, _, by omega, hl18.lies, trivial, by omega⟩, by omega⟩, by omega⟩, by omega⟩, by omega⟩ rfl
  refine (ApN.apart_any _ W.heap.size _ _ hst2 (by simp; omega) (by simp) ?_).mono ?_
  · intro j q hq
    have := List.mem_of_getElem? hq
    simp only [List.mem_cons, List.mem_nil_iff, or_false] at this
    rcases this with rfl | rfl | rfl | rfl | rfl <;> simp <;> omega
  rintro e w21 ⟨rfl, hb21⟩
  go_wp2_with fail
  go_ret
  exact ⟨rfl, (below_alloc hB20 _).trans hb21⟩
end Go.Proofs.Ytblfmofhfbbmdaa
