/- Records as cells: what a record's cells hold, how two are compared, how its parts are read. -/
import Derived.Test.YtblfmofhfbbmdaaDoorOct0
import Derived.Laws.StructEq
import Derived.Laws.Rows
import Derived.BigQuiet
set_option linter.unusedVariables false
set_option linter.unusedSimpArgs false
namespace Go.Proofs.YtblfmofhfbbmdaaDoor
open Go.RowKit

/-- A record. -/
structure Rec where
  k : Int
  p : Int
  b : Int
  v : List Int
  i : Int
deriving DecidableEq
def Rec.cells (r : Rec) : Array Value := (Value.int .i64 r.k :: .int .u64 r.p :: .int .i64 r.b :: (bytes r.v ++ [.int .i64 r.i])).toArray
structure Rec.ok (r : Rec) : Prop where
  k : -9223372036854775808 ≤ r.k ∧ r.k ≤ 9223372036854775807
  p : 0 ≤ r.p ∧ r.p < 18446744073709551616
  b : -9223372036854775808 ≤ r.b ∧ r.b ≤ 9223372036854775807
  v : IsB r.v
  n : r.v.length = 32
  i : -9223372036854775808 ≤ r.i ∧ r.i ≤ 9223372036854775807
def zero32 : List Int := List.replicate 32 0
def Rec.zero : Rec := ⟨0, 0, 0, zero32, 0⟩
theorem Rec.zero_ok : Rec.zero.ok := ⟨by decide, by decide, by decide, fun x hx => by rw [(List.mem_replicate.1 hx).2]; omega, rfl, by decide⟩
theorem Rec.size {r : Rec} (h : r.v.length = 32) : r.cells.size = 36 := by simp [Rec.cells, bytes, h]
theorem Rec.get0 (r : Rec) : r.cells[0]? = some (.int .i64 r.k) := by simp [Rec.cells]
theorem Rec.get1 (r : Rec) : r.cells[1]? = some (.int .u64 r.p) := by simp [Rec.cells]
theorem Rec.get2 (r : Rec) : r.cells[2]? = some (.int .i64 r.b) := by simp [Rec.cells]
theorem Rec.getv (r : Rec) (j : Nat) (h : j < r.v.length) : r.cells[3 + j]? = some (.int .u8 (r.v[j]?.getD 0)) := by
  rw [show 3 + j = j + 1 + 1 + 1 by omega]
  simp [Rec.cells, List.getElem?_append_left (show j < (bytes r.v).length by rw [bytes_length]; exact h), bytes_get r.v j h]
theorem Rec.geti (r : Rec) (h : r.v.length = 32) : r.cells[35]? = some (.int .i64 r.i) := by
  simp only [Rec.cells, List.getElem?_toArray, List.getElem?_cons_succ]
  rw [List.getElem?_append_right (by rw [bytes_length]; omega), bytes_length, h]; rfl
theorem Rec.one (r : Rec) : ∀ u ∈ r.cells, u.oneCell' = true := fun u hu => by
  simp only [Rec.cells, List.mem_toArray, List.mem_cons, List.mem_append, bytes, List.mem_map, List.not_mem_nil, or_false] at hu
  rcases hu with rfl | rfl | rfl | ⟨z, _, rfl⟩ | rfl <;> rfl

/-! ### Comparisons -/
section
variable {P : Program} (w : World)
theorem all_range_int : ∀ (xs ys : List Int), xs.length = ys.length → ((List.range xs.length).all fun i => xs.getD i 0 == ys.getD i 0) = (xs == ys)
  | [], [], _ => rfl
  | x :: xs, y :: ys, h => by
    have ih := all_range_int xs ys (by simpa using h)
    rw [List.length_cons, List.range_succ_eq_map, List.all_cons, List.all_map]
    simp only [List.getD_cons_zero, Function.comp_def, List.getD_cons_succ, ih]
    simp [List.cons_beq_cons]
  | [], _ :: _, h => by simp at h
  | _ :: _, [], h => by simp at h
theorem run_equalIn_arr (d : Nat) (t e : TypeId) (n : Nat) (ht : P.underlying t = some (.array n e)) (he : P.underlying e = some (.int .u8)) (hsz : ∀ w, (sizeOf e).run P w = .ok 1 w)
    (xs ys : List Int) (hx : xs.length = n) (hy : ys.length = n) :
    (Op.equalIn (d + 2) t (.agg (bytes xs).toArray) (.agg (bytes ys).toArray)).run P w = .ok (xs == ys) w := by
  rw [← all_range_int xs ys (hx.trans hy.symm), hx, List.range_eq_range', Op.equalIn]
  simp only [Sem.run_bind, run_underlying ht, Result.andThen_ok, hsz, Std.Legacy.Range.forIn_eq_forIn_range', Std.Legacy.Range.size, Nat.sub_zero, Nat.add_sub_cancel, Nat.div_one]
  have hl : ∀ i ∈ List.range' 0 n 1, i < n := fun i hi => by simpa using (List.mem_range'_1.1 hi).2
  generalize List.range' 0 n 1 = l at hl ⊢
  induction l with
  | nil => simp
  | cons i l ih =>
    have hi : i < n := hl i (by simp)
    have px : (part e (bytes xs).toArray (i * 1)).run P w = .ok (.int .u8 (xs.getD i 0)) w := by
      simp [part, isAgg, run_underlying he, List.getD, bytes, List.getElem?_eq_getElem (show i < xs.length by omega)]
    have py : (part e (bytes ys).toArray (i * 1)).run P w = .ok (.int .u8 (ys.getD i 0)) w := by
      simp [part, isAgg, run_underlying he, List.getD, bytes, List.getElem?_eq_getElem (show i < ys.length by omega)]
    have pe : (Op.equalIn (d + 1) e (.int .u8 (xs.getD i 0)) (.int .u8 (ys.getD i 0))).run P w = .ok (xs.getD i 0 == ys.getD i 0) w := by
      rw [run_equalIn_int w d e .u8 .u8 _ _ he]
    simp only [List.forIn_cons, Sem.run_bind, px, py, pe, Result.andThen_ok, List.all_cons]
    cases hb : (xs.getD i 0 == ys.getD i 0)
    · simp
    · simp only [Bool.not_true, Bool.false_eq_true, if_false, Sem.run_pure, Result.andThen_ok, Bool.true_and]
      exact ih fun j hj => hl j (by simp [hj])
end
/-- Fields one behind the other: the last one that counts. -/
theorem eqf_last' {P : Program} {d : Nat} {xs ys : Array Value} {f : Field} {a b : Value} {r : Bool} {w : World} (hn : (f.name == "_") = false) (ha : (part f.type xs f.offset).run P w = .ok a w) (hb : (part f.type ys f.offset).run P w = .ok b w) (he : (Op.equalIn d f.type a b).run P w = .ok r w) : (Op.eqFields d xs ys [f]).run P w = .ok r w := by
  have hn' : f.name ≠ "_" := by simpa using hn
  simp only [Op.eqFields, if_pos hn', Sem.run_bind, ha, hb, he, Result.andThen_ok]
  cases r <;> simp
theorem eqf_cons' {P : Program} {d : Nat} {xs ys : Array Value} {f : Field} {fs : List Field} {a b : Value} {r s : Bool} {w : World} (hn : (f.name == "_") = false) (ha : (part f.type xs f.offset).run P w = .ok a w) (hb : (part f.type ys f.offset).run P w = .ok b w) (he : (Op.equalIn d f.type a b).run P w = .ok r w) (hr : (Op.eqFields d xs ys fs).run P w = .ok s w) : (Op.eqFields d xs ys (f :: fs)).run P w = .ok (r && s) w := by
  have hn' : f.name ≠ "_" := by simpa using hn
  rw [Op.eqFields]
  simp only [if_pos hn', Sem.run_bind, ha, hb, he, Result.andThen_ok]
  cases r
  · simp
  · simpa using hr
theorem eqA_of' {P : Program} {d : Nat} {xs ys : Array Value} {r : Bool} {w : World} {t : TypeId} {fs : Array Field} (hu : P.underlying t = some (.struct fs)) (hp : P.stoodInHeld t = false) (h : (Op.eqFields d xs ys fs.toList).run P w = .ok r w) : (Op.equalIn (d + 1) t (.agg xs) (.agg ys)).run P w = .ok r w := by
  have hf : P.fieldsOf t = fs := by simp [Program.fieldsOf, hu]
  rw [run_equalIn_struct (P := P) w d t xs ys (by rw [hf]; exact hu) hp, hf]
  exact h
theorem part_int {P : Program} {t : TypeId} {k : IntKind} (hu : P.underlying t = some (.int k)) {xs : Array Value} {off : Nat} {v : Value} (hx : xs[off]? = some v) (w : World) : (part t xs off).run P w = .ok v w := by
  simp [part, isAgg, run_underlying hu, hx]

theorem size5 (w : World) : (sizeOf 5).run Tryd.prog w = .ok 1 w := by kernel_rfl
theorem size63 (w : World) : (sizeOf 63).run Tryd.prog w = .ok 32 w := by kernel_rfl
theorem Rec.part63 (r : Rec) (h : r.v.length = 32) (w : World) : (part 63 r.cells 3).run Tryd.prog w = .ok (.agg (bytes r.v).toArray) w := by
  have he : r.cells.extract 3 35 = (bytes r.v).toArray := by
    apply Array.ext'
    simp only [Rec.cells, Array.toList_extract, List.extract_eq_take_drop, List.drop_succ_cons, List.drop_zero]
    rw [List.take_append_of_le_length (by rw [bytes_length]; omega), List.take_of_length_le (by rw [bytes_length]; omega)]
  simp [part, isAgg, run_underlying Tryd.underlying63, size63, he]
def recEq (r s : Rec) : Bool := (r.k == s.k) && ((r.p == s.p) && ((r.b == s.b) && ((r.v == s.v) && (r.i == s.i))))
theorem recEq_iff (r s : Rec) : recEq r s = true ↔ r = s := by
  obtain ⟨a, b, c, d, e⟩ := r
  obtain ⟨a', b', c', d', e'⟩ := s
  simp [recEq]
theorem recEq_self (r : Rec) : recEq r r = true := (recEq_iff r r).2 rfl
theorem eqRec {t : TypeId} {fs : Array Field} (hu : Tryd.prog.underlying t = some (.struct fs)) (hp : Tryd.prog.stoodInHeld t = false) (hf : fs.toList.map (fun f => (f.name == "_", f.type, f.offset)) = [(false, 3, 0), (false, 49, 1), (false, 3, 2), (false, 63, 3), (false, 3, 35)])
    (r s : Rec) (hr : r.v.length = 32) (hs : s.v.length = 32) (w : World) : (Op.equalIn 10000 t (.agg r.cells) (.agg s.cells)).run Tryd.prog w = .ok (recEq r s) w := by
  refine eqA_of' hu hp ?_
  generalize fs.toList = l at hf
  have hlen : l.length = 5 := by simpa using congrArg List.length hf
  match l, hlen with
  | [f0, f1, f2, f3, f4], _ =>
    simp only [List.map_cons, List.map_nil, List.cons.injEq, Prod.mk.injEq, and_true] at hf
    obtain ⟨⟨n0, t0, o0⟩, ⟨n1, t1, o1⟩, ⟨n2, t2, o2⟩, ⟨n3, t3, o3⟩, ⟨n4, t4, o4⟩⟩ := hf
    refine eqf_cons' n0 (a := .int .i64 r.k) (b := .int .i64 s.k) (by rw [t0, o0]; exact part_int Tryd.underlying3 r.get0 w) (by rw [t0, o0]; exact part_int Tryd.underlying3 s.get0 w) (by rw [t0]; exact run_equalIn_int w 9998 3 .i64 .i64 _ _ Tryd.underlying3) ?_
    refine eqf_cons' n1 (a := .int .u64 r.p) (b := .int .u64 s.p) (by rw [t1, o1]; exact part_int Tryd.underlying49 r.get1 w) (by rw [t1, o1]; exact part_int Tryd.underlying49 s.get1 w) (by rw [t1]; exact run_equalIn_int w 9998 49 .u64 .u64 _ _ Tryd.underlying49) ?_
    refine eqf_cons' n2 (a := .int .i64 r.b) (b := .int .i64 s.b) (by rw [t2, o2]; exact part_int Tryd.underlying3 r.get2 w) (by rw [t2, o2]; exact part_int Tryd.underlying3 s.get2 w) (by rw [t2]; exact run_equalIn_int w 9998 3 .i64 .i64 _ _ Tryd.underlying3) ?_
    refine eqf_cons' n3 (a := .agg (bytes r.v).toArray) (b := .agg (bytes s.v).toArray) (by rw [t3, o3]; exact r.part63 hr w) (by rw [t3, o3]; exact s.part63 hs w) (by rw [t3]; exact run_equalIn_arr w 9997 63 5 32 Tryd.underlying63 Tryd.underlying5 size5 _ _ hr hs) ?_
    exact eqf_last' n4 (a := .int .i64 r.i) (b := .int .i64 s.i) (by rw [t4, o4]; exact part_int Tryd.underlying3 (r.geti hr) w) (by rw [t4, o4]; exact part_int Tryd.underlying3 (s.geti hs) w) (by rw [t4]; exact run_equalIn_int w 9998 3 .i64 .i64 _ _ Tryd.underlying3)
theorem eq66 (r s : Rec) (hr : r.v.length = 32) (hs : s.v.length = 32) (w : World) : (Op.equalIn 10000 66 (.agg r.cells) (.agg s.cells)).run Tryd.prog w = .ok (recEq r s) w :=
  eqRec Tryd.underlying66 (by kernel_rfl) (by kernel_rfl) r s hr hs w
theorem eq71 (r s : Rec) (hr : r.v.length = 32) (hs : s.v.length = 32) (w : World) : (Op.equalIn 10000 71 (.agg r.cells) (.agg s.cells)).run Tryd.prog w = .ok (recEq r s) w :=
  eqRec Tryd.underlying71 (by kernel_rfl) (by kernel_rfl) r s hr hs w
theorem eq63 (xs ys : List Int) (hx : xs.length = 32) (hy : ys.length = 32) (w : World) : (Op.equalIn 10000 63 (.agg (bytes xs).toArray) (.agg (bytes ys).toArray)).run Tryd.prog w = .ok (xs == ys) w :=
  run_equalIn_arr w 9998 63 5 32 Tryd.underlying63 Tryd.underlying5 size5 _ _ hx hy
theorem eql66 (r s : Rec) (hr : r.v.length = 32) (hs : s.v.length = 32) (w : World) : (binOp .eql 66 (.agg r.cells) (.agg s.cells)).run Tryd.prog w = .ok (.bool (recEq r s)) w := by
  rw [run_eql_struct, eq66 r s hr hs w]; rfl
theorem neq66 (r s : Rec) (hr : r.v.length = 32) (hs : s.v.length = 32) (w : World) : (binOp .neq 66 (.agg r.cells) (.agg s.cells)).run Tryd.prog w = .ok (.bool (!recEq r s)) w := by
  rw [run_neq_struct, eq66 r s hr hs w]; rfl
theorem eql71 (r s : Rec) (hr : r.v.length = 32) (hs : s.v.length = 32) (w : World) : (binOp .eql 71 (.agg r.cells) (.agg s.cells)).run Tryd.prog w = .ok (.bool (recEq r s)) w := by
  rw [run_eql_struct, eq71 r s hr hs w]; rfl
theorem neq71 (r s : Rec) (hr : r.v.length = 32) (hs : s.v.length = 32) (w : World) : (binOp .neq 71 (.agg r.cells) (.agg s.cells)).run Tryd.prog w = .ok (.bool (!recEq r s)) w := by
  rw [run_neq_struct, eq71 r s hr hs w]; rfl
theorem eql63 (xs ys : List Int) (hx : xs.length = 32) (hy : ys.length = 32) (w : World) : (binOp .eql 63 (.agg (bytes xs).toArray) (.agg (bytes ys).toArray)).run Tryd.prog w = .ok (.bool (xs == ys)) w := by
  rw [run_eql_struct, eq63 _ _ hx hy w]; rfl

/-! ### Whole records, and the value within, in memory -/
/-- A block holds a record. -/
def At (t : TypeId) (w : World) (g : Nat) (r : Rec) : Prop := w.heap[g]? = some (.cells r.cells t (0, 0))
theorem At.below {t : TypeId} {w w' : World} {g : Nat} {r : Rec} (h : At t w g r) (hb : Below w.heap.size w w') : At t w' g r :=
  (hb.block g (Array.getElem?_eq_some_iff.1 h).1).trans h
theorem At.lt {t : TypeId} {w : World} {g : Nat} {r : Rec} (h : At t w g r) : g < w.heap.size := (Array.getElem?_eq_some_iff.1 h).1
theorem At.new (t : TypeId) (w : World) (r : Rec) : At t (w.alloc (.cells r.cells t)) w.heap.size r := heap_alloc_new w _
theorem At.c0 {t : TypeId} {w : World} {g : Nat} {r : Rec} (h : At t w g r) : w.cell? ⟨g, 0, none⟩ = some (.int .i64 r.k) := (cell_of_row w g 0 _ _ _ h).trans r.get0
theorem At.c1 {t : TypeId} {w : World} {g : Nat} {r : Rec} (h : At t w g r) : w.cell? ⟨g, 1, none⟩ = some (.int .u64 r.p) := (cell_of_row w g 1 _ _ _ h).trans r.get1
theorem At.c2 {t : TypeId} {w : World} {g : Nat} {r : Rec} (h : At t w g r) : w.cell? ⟨g, 2, none⟩ = some (.int .i64 r.b) := (cell_of_row w g 2 _ _ _ h).trans r.get2
theorem At.ci {t : TypeId} {w : World} {g : Nat} {r : Rec} (h : At t w g r) (hl : r.v.length = 32) : w.cell? ⟨g, 35, none⟩ = some (.int .i64 r.i) := (cell_of_row w g 35 _ _ _ h).trans (r.geti hl)
theorem At.cv {t : TypeId} {w : World} {g : Nat} {r : Rec} (h : At t w g r) (j : Nat) (hj : j < r.v.length) : w.cell? ⟨g, 3 + j, none⟩ = some (.int .u8 (r.v[j]?.getD 0)) := (cell_of_row w g (3 + j) _ _ _ h).trans (r.getv j hj)
theorem At.free {t : TypeId} {w : World} {g : Nat} {r : Rec} (h : At t w g r) (j : Nat) : w.frozen? ⟨g, j, none⟩ = false := frozen_of_row w g j _ _ h
/-- The 32 bytes within. -/
theorem At.val {t : TypeId} {w : World} {g : Nat} {r : Rec} (h : At t w g r) (hl : r.v.length = 32) : (loadVar 63 ⟨g, 3, none⟩).run Tryd.prog w = .ok (.agg (bytes r.v).toArray) w := by
  have hl' : (loadCells ⟨g, 3, none⟩ (bytes r.v).length).run Tryd.prog w = .ok (bytes r.v).toArray w :=
    run_loadCells_list (P := Tryd.prog) w ⟨g, 3, none⟩ (bytes r.v) (fun j v hv => by
      have hj : j < r.v.length := by have := (List.getElem?_eq_some_iff.1 hv).1; rwa [bytes_length] at this
      rw [bytes_get r.v j hj] at hv
      cases hv
      have hadd : (⟨g, 3, none⟩ : Addr).add j = ⟨g, 3 + j, none⟩ := by unfold Addr.add; split <;> simp_all
      rw [hadd]; exact h.cv j hj)
  rw [bytes_length, hl] at hl'
  simp [loadVar, isAgg, run_underlying Tryd.underlying63, size63, hl']
theorem At.reads {t : TypeId} {w : World} {g : Nat} {r : Rec} (h : At t w g r) (hr : r.ok) : RBy w (.slice (some ⟨g, 3, none⟩) 32 32) r.v := by
  refine ⟨some ⟨g, 3, none⟩, 32, by rw [hr.n], by rw [hr.n]; omega, by rw [hr.n]; omega, hr.v, (fun h => by cases h), fun _ => ⟨_, rfl, fun j hj => ?_⟩⟩
  have hadd : (⟨g, 3, none⟩ : Addr).add j = ⟨g, 3 + j, none⟩ := by unfold Addr.add; split <;> simp_all
  rw [hadd]; exact h.cv j hj
theorem At.load66 {w : World} {g : Nat} {r : Rec} (h : At 66 w g r) (hl : r.v.length = 32) : (loadVar 66 ⟨g, 0, none⟩).run Tryd.prog w = .ok (.agg r.cells) w :=
  run_loadVar_row w g 66 66 r.cells (0, 0) _ h Tryd.underlying66 rfl (by rw [Rec.size hl]; kernel_rfl)
theorem At.load71 {w : World} {g : Nat} {r : Rec} (h : At 71 w g r) (hl : r.v.length = 32) : (loadVar 71 ⟨g, 0, none⟩).run Tryd.prog w = .ok (.agg r.cells) w :=
  run_loadVar_row w g 71 71 r.cells (0, 0) _ h Tryd.underlying71 rfl (by rw [Rec.size hl]; kernel_rfl)
end Go.Proofs.YtblfmofhfbbmdaaDoor
