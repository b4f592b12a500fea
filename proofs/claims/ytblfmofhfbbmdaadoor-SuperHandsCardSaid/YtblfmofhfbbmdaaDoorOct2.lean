/- What the functions of package octet come to: the walk of Fields. -/
import Derived.Test.YtblfmofhfbbmdaaDoorOct1
set_option linter.unusedVariables false
set_option linter.unusedSimpArgs false
namespace Go.Proofs.YtblfmofhfbbmdaaDoor
open Go.RowKit

def okSize (s : Int) : Prop := 1 ≤ s ∧ s ≤ 8
instance (s : Int) : Decidable (okSize s) := inferInstanceAs (Decidable (_ ∧ _))
/-- The numbers and the rest, if there are bytes enough. -/
def fieldsGo : List Int → List Int → Option (List Int × List Int)
  | xs, [] => some ([], xs)
  | xs, s :: ss => if (xs.length : Int) < s then none else (fieldsGo (xs.drop s.toNat) ss).map fun r => (numU (xs.take s.toNat) :: r.1, r.2)
def fields (xs ss : List Int) : List Int × List Int × Int :=
  if ∀ s ∈ ss, okSize s then (match fieldsGo xs ss with | none => ([], [], 11) | some r => (r.1, r.2, 0)) else ([], [], 2)
theorem fields_bad {xs ss : List Int} (h : ¬ ∀ s ∈ ss, okSize s) : fields xs ss = ([], [], 2) := by rw [fields, if_neg h]
theorem fields_short {xs ss : List Int} (h : ∀ s ∈ ss, okSize s) (hg : fieldsGo xs ss = none) : fields xs ss = ([], [], 11) := by rw [fields, if_pos h, hg]
theorem fields_ok {xs ss : List Int} (h : ∀ s ∈ ss, okSize s) {r : List Int × List Int} (hg : fieldsGo xs ss = some r) : fields xs ss = (r.1, r.2, 0) := by rw [fields, if_pos h, hg]

/-- What is behind s bytes. -/
theorem RBy.rest {w : World} {ad : Addr} {n c : Nat} {xs : List Int} (h : RBy w (.slice (some ad) n c) xs) {s : Nat} (hs : s ≤ xs.length) : RBy w (.slice (some (if c = s then ad else ad.add s)) (n - s) (c - s)) (xs.drop s) := by
  obtain ⟨A', c', e, h2, h3, h4, h6, h5⟩ := h
  simp only [Value.slice.injEq] at e
  obtain ⟨rfl, rfl, rfl⟩ := e
  have hl : (xs.drop s).length = xs.length - s := by rw [List.length_drop]
  refine ⟨_, c - s, by rw [hl], by rw [hl]; omega, by rw [hl]; omega, fun x hx => h4 x (List.mem_of_mem_drop hx), (fun h => by cases h), fun hp => ?_⟩
  rw [hl] at hp ⊢
  obtain ⟨ad', e, hc⟩ := h5 (by omega)
  cases e
  refine ⟨_, rfl, fun j hj => ?_⟩
  rw [if_neg (by omega), Deep.add_add, List.getElem?_drop]
  exact hc (s + j) (by omega)

set_option maxRecDepth 100000 in
set_option maxHeartbeats 2000000 in
theorem fields_any (v : Value) (xs : List Int) (vs : Value) (ss : List Int) (w : World) (hv : RBy w v xs) (hs : RI .i64 w vs ss) (hsr : ∀ s ∈ ss, -9223372036854775808 ≤ s ∧ s ≤ 9223372036854775807) (hxl : xs.length ≤ 140737488355328) (hsl : ss.length * 8 ≤ 140737488355328) :
    Calls Tryd.prog 64 #[v, vs] w fun e w' => ∃ v1 v2, e = .returned (.tuple #[v1, v2, .int .i64 (fields xs ss).2.2]) ∧ OI .u64 49 w' w.heap.size v1 (fields xs ss).1 ∧ OB w' w.heap.size v2 (fields xs ss).2.1 ∧ Below w.heap.size w w' := by
  obtain ⟨A, c, rfl, hc, hn, hA, hcell⟩ := hs
  obtain ⟨Ab, cb, rfl, hcb, hnb, -, -, -⟩ := id hv
  have hfb : ∀ k, k < ss.length → ¬ okSize (ss[k]?.getD 0) → fields xs ss = ([], [], 2) := fun k hk hno => by
    refine fields_bad fun hall => hno ?_
    rw [List.getElem?_eq_getElem hk]
    exact hall _ (List.getElem_mem hk)
  have Hfb := Lib.hid hfb
  have Hcell := Lib.hid hcell
  have Hsr := Lib.hid hsr
  clear hfb hcell hsr
  go_enter Tryd.func64, Tryd.ntmps64
  go_wp2
  go_loop [4, 13] (fun nsv i => ∃ k : Nat, k ≤ ss.length ∧ nsv = .slice none 0 0 ∧ i = .int .i64 k ∧ Aside1 (∀ j, j < k → okSize (ss[j]?.getD 0))) (fun _ i => ss.length - (intOf i).toNat)
  case atStart => exact ⟨0, Nat.zero_le _, rfl, rfl, ⟨fun j hj => by omega⟩⟩
  case round =>
    obtain ⟨k, hk, rfl, rfl, hgood⟩ := hrel
    by_cases hlt : k < ss.length
    · obtain ⟨ad, rfl, hcs⟩ := Hcell.out (by omega)
      have hu := hcs k hlt
      clear hcs
      by_cases hok : okSize (ss[k]?.getD 0)
      · have hgood2 : Aside1 (∀ j, j < k + 1 → okSize (ss[j]?.getD 0)) := ⟨fun j hj => by
          by_cases e : j = k
          · subst e; exact hok
          · exact hgood.out j (by omega)⟩
        obtain ⟨h1, h2⟩ := hok
        generalize ss[k]?.getD 0 = s at hu h1 h2
        go_wp2_with (go_at_call 78; refine (may_yes _ _ h1 h2).mono ?_; rintro e w' ⟨rfl, rfl⟩)
        go_round
        case rel => exact ⟨k + 1, by omega, rfl, by go_num, hgood2⟩
        case measure => simp [intOf]; omega
      · have hf := Hfb.out k hlt hok
        have Hf := Lib.hid hf
        clear hf
        unfold okSize at hok
        generalize ss[k]?.getD 0 = s at hu hok
        have Hok := Lib.hid hok
        clear hok
        go_wp2_with (go_at_call 78; refine (may_no _ _ Hok.out).mono ?_; rintro e w' ⟨rfl, rfl⟩)
        go_ret3
        exact ⟨_, _, by rw [Hf.out]; rfl, by rw [Hf.out]; exact OI.nil _ _ _ _, by rw [Hf.out]; exact OB.nil _ _, Below.refl _ _⟩
    · have hall : ∀ s ∈ ss, okSize s := fun s hs => by
        obtain ⟨j, hj, rfl⟩ := List.mem_iff_getElem.1 hs
        have := hgood.out j (by omega)
        rwa [List.getElem?_eq_getElem hj] at this
      have Hall := Lib.hid hall
      have hA' := hA
      have hgo : fieldsGo xs ss = (fieldsGo xs (ss.drop 0)).map fun r => (([] : List Int) ++ r.1, r.2) := by simp
      have Hgo := Lib.hid hgo
      have Hv := Lib.hid hv
      clear hall hgood Hfb Hsr hA hgo hv
      go_wp2
      clear hk hlt
      go_loopw [0, 4, 23] (fun bv nsv i wr => ∃ (k : Nat) (cur N : List Int), k ≤ ss.length ∧ N.length = k ∧ i = .int .i64 k ∧ cur.length ≤ xs.length ∧ Hid (RBy w bv cur) ∧ Hid (fieldsGo xs ss = (fieldsGo cur (ss.drop k)).map fun r => (N ++ r.1, r.2)) ∧ OI .u64 49 wr w.heap.size nsv N ∧ Below w.heap.size w wr) (fun _ _ i _ => ss.length - (intOf i).toNat)
      case atStart => exact ⟨0, xs, [], Nat.zero_le _, rfl, rfl, Nat.le_refl _, Hv, Hgo, OI.nil _ _ _ _, Below.refl _ _⟩
      case round =>
        obtain ⟨k, cur, N, hk, hNk, rfl, hcl, Hb, Hg, hon, hbr⟩ := hrel
        clear Hv Hgo
        obtain ⟨Ab, cb, rfl, hcb, hnb, -, -, hcells⟩ := id Hb.out
        by_cases hlt : k < ss.length
        · obtain ⟨ad, rfl, hcs⟩ := Hcell.out (by omega)
          have hu := keep_cell hbr (Nat.le_refl _) (hcs k hlt)
          have hok : okSize (ss[k]?.getD 0) := by
            rw [List.getElem?_eq_getElem hlt]; exact Hall.out _ (List.getElem_mem hlt)
          have hdr : ss.drop k = (ss[k]?.getD 0) :: ss.drop (k + 1) := by
            rw [List.drop_eq_getElem_cons hlt, List.getElem?_eq_getElem hlt]; rfl
          have hg := Hg.out
          rw [hdr] at hg
          clear hcs hdr Hg
          obtain ⟨h1, h2⟩ := hok
          generalize ss[k]?.getD 0 = s0 at hu h1 h2 hg
          obtain ⟨s, rfl⟩ := Int.eq_ofNat_of_zero_le (by omega : 0 ≤ s0)
          by_cases hsh : cur.length < s
          · have hnone : fieldsGo xs ss = none := by
              rw [hg, fieldsGo, if_pos (by omega)]; rfl
            have Hf := Lib.hid (fields_short Hall.out hnone)
            clear hg hnone Hcell hcells
            go_wp2_with fail
            go_ret3
            exact ⟨_, _, by rw [Hf.out]; rfl, by rw [Hf.out]; exact OI.nil _ _ _ _, by rw [Hf.out]; exact OB.nil _ _, hbr⟩
          · obtain ⟨adb, rfl, -⟩ := hcells (by omega)
            have hgo : fieldsGo xs ss = (fieldsGo (cur.drop s) (ss.drop (k + 1))).map fun r => ((N ++ [numU (cur.take s)]) ++ r.1, r.2) := by
              rw [hg, fieldsGo, if_neg (by omega)]
              simp only [Int.toNat_natCast, Option.map_map]
              congr 1
              funext r
              simp
            have Hgo := Lib.hid hgo
            have Hfirst := Lib.hid (Hb.out.first (m := s) (by omega))
            have Hrest := Lib.hid (Hb.out.rest (s := s) (by omega))
            rw [apply_ite some] at Hrest
            have hsz := hbr.size
            clear hg hgo Hcell
            go_wp2_with first
              | (go_at_call 80; refine (number_any _ _ _ (Hfirst.out.below hbr)).mono ?_; rintro e w' ⟨rfl, rfl⟩)
              | (at_builtin; refine wpList_app1 rfl (.tmp 31) (.tmp 36) 97 49 .u64 8 rfl Tryd.underlying97 oinfo64 (by decide) w.heap.size _ N (numU (cur.take s)) rfl rfl hon (by omega) hsz ?_; intro v1 w1 ho1 hg1 _)
            go_roundw
            case rel => exact ⟨k + 1, cur.drop s, N ++ [numU (cur.take s)], by omega, by simp [hNk], by go_num, by simp; omega, Hrest, Hgo, ho1, below_grownI hbr hon (Nat.le_refl _) hg1⟩
            case measure => simp [intOf]; omega
        · have hg : fieldsGo xs ss = some (N, cur) := by
            rw [Hg.out, List.drop_of_length_le (by omega), fieldsGo]; simp
          have Hf := Lib.hid (fields_ok Hall.out hg)
          have Hb1 := Hb
          clear hg Hg hcells
          go_wp2_with (go_at_call 79; refine (ojoin_any _ [cur] _ (RBs.one (heap_top _ _ _ rfl) (by decide) ((Hb1.out.below hbr).below (below_alloc (Below.refl _ _) _))) (by simp; omega)).mono ?_; rintro e w' ⟨v', rfl, ho', hb'⟩)
          go_ret3
          have hb2 := below_then hbr (below_then (below_alloc (Below.refl _ _) _) hb')
          refine ⟨_, _, by rw [Hf.out]; rfl, by rw [Hf.out]; exact (hon.below (below_alloc (Below.refl _ _) _)).below hb', ?_, hb2⟩
          rw [Hf.out]
          simp only [List.flatten_cons, List.flatten_nil, List.append_nil] at ho'
          exact ho'.lower (by simp; have := hbr.size; omega)
end Go.Proofs.YtblfmofhfbbmdaaDoor
