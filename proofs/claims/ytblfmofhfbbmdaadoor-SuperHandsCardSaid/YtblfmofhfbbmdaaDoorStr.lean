/- The bytes as a text; bytes.Equal. -/
import Derived.Test.YtblfmofhfbbmdaaDoorNums
import Derived.Laws.BytesArg
set_option linter.unusedVariables false
set_option linter.unusedSimpArgs false
namespace Go.Proofs.YtblfmofhfbbmdaaDoor
open Go.RowKit

/-- string(b). -/
theorem conv_str {w : World} {v : Value} {xs : List Int} (h : RBy w v xs) : (convert 25 9 v).run Tryd.prog w = .ok (.string (strOfNums xs)) w := by
  obtain ⟨A, c, rfl, hc, hn, hb, hA, hcell⟩ := h
  cases A with
  | none =>
    have hx : xs = [] := by
      cases xs with
      | nil => rfl
      | cons y ys => obtain ⟨ad, e, _⟩ := hcell (by simp); cases e
    subst hx
    exact run_convert_bytes_nil w _ 5 Tryd.underlying25 Tryd.underlying5 0 c _ Tryd.underlying9
  | some ad =>
    have hl : (loadCells ad xs.length).run Tryd.prog w = .ok (xs.map (Value.int .u8)).toArray w := by
      have := run_loadCells_list (P := Tryd.prog) w ad (xs.map (Value.int .u8)) (fun j v hj => by
        have hjl : j < xs.length := by
          rcases Nat.lt_or_ge j xs.length with h | h
          · exact h
          · simp [List.getElem?_eq_none (show (xs.map (Value.int .u8)).length ≤ j by simpa using h)] at hj
        obtain ⟨ad', e, hcs⟩ := hcell (by omega)
        cases e
        rw [hcs j hjl]
        simp [List.getElem?_eq_getElem hjl] at hj
        subst hj
        simp [List.getElem?_eq_getElem hjl])
      simpa using this
    rw [run_convert_bytes_string w _ _ 5 _ xs.length c Tryd.underlying25 Tryd.underlying5 Tryd.underlying9, run_bytesToString w _ xs.length c xs hl, foldl_push_bytes]
    simp [strOfNums, ByteArray.empty, ByteArray.emptyWithCapacity]
    rfl

theorem str_beq {xs ys : List Int} (hx : IsB xs) (hy : IsB ys) : ((strOfNums xs).toList == (strOfNums ys).toList) = (xs == ys) := by
  rw [Bool.eq_iff_iff, beq_iff_eq, beq_iff_eq]
  constructor
  · intro e
    refine str_inj hx hy ?_
    have e2 : (strOfNums xs).data.toList = (strOfNums ys).data.toList := by
      rw [ByteArray.toList_eq, ByteArray.toList_eq] at e
      exact e
    have e3 : (strOfNums xs).data = (strOfNums ys).data := Array.ext' e2
    cases h1 : strOfNums xs; cases h2 : strOfNums ys
    rw [h1, h2] at e3
    exact congrArg ByteArray.mk e3
  · intro e; rw [e]
set_option maxHeartbeats 1000000 in
theorem equal_yes (u v : Value) (xs ys : List Int) (w : World) (hu : RBy w u xs) (hv : RBy w v ys) (h : xs = ys) :
    Calls Tryd.prog 66 #[u, v] w fun e w' => e = .returned (.bool true) ∧ w = w' := by
  subst h
  have k1 := conv_str hu
  have k2 := conv_str hv
  obtain ⟨A, c, rfl, -⟩ := hu.form
  obtain ⟨B, d, rfl, -⟩ := hv.form
  clear hu hv
  go_enter Tryd.func66, Tryd.ntmps66
  go_wp2
  go_ret
  exact ⟨by simp, rfl⟩
set_option maxHeartbeats 1000000 in
theorem equal_no (u v : Value) (xs ys : List Int) (w : World) (hu : RBy w u xs) (hv : RBy w v ys) (h : xs ≠ ys) :
    Calls Tryd.prog 66 #[u, v] w fun e w' => e = .returned (.bool false) ∧ w = w' := by
  have k1 := conv_str hu
  have k2 := conv_str hv
  have hne : ((strOfNums xs).toList == (strOfNums ys).toList) = false := by
    rw [str_beq hu.isB hv.isB]; simpa using h
  obtain ⟨A, c, rfl, -⟩ := hu.form
  obtain ⟨B, d, rfl, -⟩ := hv.form
  clear hu hv h
  go_enter Tryd.func66, Tryd.ntmps66
  go_wp2
  go_ret
  exact ⟨by simp, rfl⟩
end Go.Proofs.YtblfmofhfbbmdaaDoor
