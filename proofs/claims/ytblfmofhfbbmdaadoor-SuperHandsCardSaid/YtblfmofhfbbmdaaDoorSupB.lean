/- Appending onto a full slice, and of zeros; the reference's bytes of a superblock. -/
import Derived.Test.YtblfmofhfbbmdaaDoorSup2
import Derived.Test.YtblfmofhfbbmdaaDoorSupA
import Derived.Test.YtblfmofhfbbmdaaDoorFixed
import Derived.Test.YtblfmofhfbbmdaaDoorWZeros
import Derived.ArgAppend
set_option linter.unusedVariables false
set_option linter.unusedSimpArgs false
namespace Go.Proofs.YtblfmofhfbbmdaaDoor
open Go.RowKit Crc

section
variable {P : Program} {w : World} {ops : Array Oper} {rest : List Oper} {o : Oper} {a : Act} {Q : Exit → Act → World → Prop}
/-- append(v, u...) where v has no spare room. -/
theorem wpList_appG (hgd : o.guard = none) (s x : Operand) (t : TypeId)
    (ho : o.op = .call { callee := .builtin .append, args := #[s, x], argTypes := #[t, t] })
    (ht : P.underlying t = some (.slice 5)) (hinfo : (P.info? 5).map (fun i => (i.zero, i.size, i.bytes)) = some (some (.int .u8 0), 1, 1))
    (A : Option Addr) (u : Value) (xs ys : List Int) (hs : a.eval s = .slice A xs.length xs.length) (hx : a.eval x = u) (hv : RBy w (.slice A xs.length xs.length) xs) (hr : RBy w u ys) (hy : 0 < ys.length)
    (hlen : xs.length + ys.length ≤ 140737488355328)
    (h : ∀ v' w', OB w' w.heap.size v' (xs ++ ys) → w.grownBy w' none → wpList P ops Q rest (a.put o.dst v') w') :
    wpList P ops Q (o :: rest) a w := by
  obtain ⟨i0, hi, hzz⟩ := Option.map_eq_some_iff.1 hinfo
  simp only [Prod.mk.injEq] at hzz
  obtain ⟨hz0, hz1, hz2⟩ := hzz
  have hby := hr.isB
  have hbx := hv.isB
  obtain ⟨A', c', e', -, -, -, hA', hcv⟩ := hv
  simp only [Value.slice.injEq] at e'
  obtain ⟨rfl, -, rfl⟩ := e'
  obtain ⟨B, c, rfl, hc, hl, hb, hB, hcell⟩ := hr
  obtain ⟨ad, rfl, hcs⟩ := hcell hy
  refine wpList_append_grows (P := P) w hgd s x t ho 5 i0 (.int .u8 0) 1 1 ht hi hz0 hz1 hz2 rfl (by decide) A xs.length xs.length (bytes xs) hs (fun e => ⟨hA' e, hA' e⟩) (by simp [bytes]) (fun b hb j u hj => ?_) ad ys.length c (bytes ys) hx (by simp [bytes]) (fun j u hj => ?_) (fun u hu => ?_) (by omega) (by simp only [maxLen]; omega) (by omega) ?_
  · have hjl : j < xs.length := by
      have := (List.getElem?_eq_some_iff.1 hj).1
      simpa [bytes] using this
    obtain ⟨ad', e, hcs'⟩ := hcv (by omega)
    rw [e] at hb
    cases hb
    rw [bytes_get xs j hjl] at hj
    cases hj
    exact hcs' j hjl
  · have hjl : j < ys.length := by
      have := (List.getElem?_eq_some_iff.1 hj).1
      simpa [bytes] using this
    rw [bytes_get ys j hjl] at hj
    cases hj
    exact hcs j hjl
  · simp only [bytes, List.mem_map] at hu
    obtain ⟨z, _, rfl⟩ := hu
    rfl
  · intro v' w' ho' hg
    exact h v' w' ⟨by rw [bytes_append, List.length_append]; exact ho', hbx.append hby⟩ hg
/-- append(v, make([]byte, m)...). -/
theorem wpList_zeros (hgd : o.guard = none) (s x : Operand) (t ti : TypeId)
    (ho : o.op = .call { callee := .builtin .append, args := #[s, x], argTypes := #[t, ti] })
    (ht : P.underlying t = some (.slice 5)) {k : IntKind} (hti : P.underlying ti = some (.int k)) (hinfo : (P.info? 5).map (fun i => (i.zero, i.size, i.bytes)) = some (some (.int .u8 0), 1, 1))
    (base : Nat) (v : Value) (xs : List Int) (kx : IntKind) (m : Nat) (hs : a.eval s = v) (hx : a.eval x = .int kx m) (hv : OB w base v xs) (hlen : xs.length + m ≤ 140737488355328) (hbase : base ≤ w.heap.size)
    (h : ∀ v' w', OB w' base v' (xs ++ List.replicate m 0) → w.grownBy w' v.ownBlock → wpList P ops Q rest (a.put o.dst v') w') :
    wpList P ops Q (o :: rest) a w := by
  obtain ⟨i0, hi, hzz⟩ := Option.map_eq_some_iff.1 hinfo
  simp only [Prod.mk.injEq] at hzz
  obtain ⟨hz0, hz1, hz2⟩ := hzz
  have hz : (Builtin.zeroCells (Value.int .u8 0).cells m).toList = bytes (List.replicate m 0) := by
    simp [Builtin.zeroCells, Value.cells, bytes, Nat.mod_one, List.map_const', -List.map_const]
  obtain ⟨v', w', hrun, ho', hg, -⟩ := YtblfmofhfbbmdaaDoorW.PrintWords.run_append_zeros (P := P) w base t ti o.type 5 i0 (.int .u8 0) 1 1 ht hti hi hz0 hz1 hz2 rfl (by decide) (by decide) v xs.length (bytes xs) hv.1 kx m (fun u hu => by
    rw [hz] at hu
    simp only [bytes, List.mem_map] at hu
    obtain ⟨z, _, rfl⟩ := hu
    rfl) (by omega) hbase
  rw [hz] at ho'
  have hl : xs.length + m = (xs ++ List.replicate m (0 : Int)).length := by simp
  refine wpList_plain hgd fun K hK' => ?_
  unfold Oper.wp
  simp [execOp, ho, resolve, invoke, builtin, hs, hx, hrun, Result.andThen]
  exact hK' _ _ (h v' w' ⟨by rw [bytes_append, ← hl]; exact ho', hv.2.append fun y hy => by rw [(List.mem_replicate.1 hy).2]; omega⟩ hg)
end

def magicL : List Int := [87, 73, 67, 75, 69, 84]
def body7 (s : Sup) : List Int := magicL ++ [1, 0, s.b, s.l, s.m, s.h, s.c, 0, 0, 0] ++ le 8 s.t ++ le 8 s.f ++ List.replicate 28 0
def enc7 (s : Sup) : List Int := body7 s ++ le 4 (sum (body7 s))
def lowS (s : Sup) : Sup := { s with b := s.b % 256, l := s.l % 256, m := s.m % 256, h := s.h % 256, c := s.c % 256 }

theorem SAt.grown {t : TypeId} {W w' : World} {g base : Nat} {s : Sup} {v : Value} {xs : List Int} (h : SAt t W g s) (ho : OB W base v xs) (hlt : g < base) (hg : W.grownBy w' v.ownBlock) : SAt t w' g s :=
  (hg.block g h.lt (fun e => by have := (ho.blk g e.symm).1; omega)).trans h
theorem low8_any (n : Int) (w : World) (hn : 0 ≤ n ∧ n < 18446744073709551616) : Calls Tryd.prog 73 #[.int .u64 n, .int .i64 8] w fun e w' => ∃ v', e = .returned v' ∧ OB w' w.heap.size v' (le 8 n) ∧ Below w.heap.size w w' := low_any n 8 w hn (by omega)
theorem low4_any (n : Int) (w : World) (hn : 0 ≤ n ∧ n < 18446744073709551616) : Calls Tryd.prog 73 #[.int .u64 n, .int .i64 4] w fun e w' => ∃ v', e = .returned v' ∧ OB w' w.heap.size v' (le 4 n) ∧ Below w.heap.size w w' := low_any n 4 w hn (by omega)
set_option maxRecDepth 100000 in
set_option maxHeartbeats 4000000 in
theorem slaid_any (s : Sup) (w : World) (hs : s.ok) : Calls Tryd.prog 54 #[.agg s.cells] w fun e w' => ∃ v', e = .returned v' ∧ OB w' w.heap.size v' (enc7 (lowS s)) ∧ Below w.heap.size w w' := by
  obtain ⟨hob, hol, hom, hoh, hoc, hot, hof⟩ := hs
  obtain ⟨b, l, m, hi, c, t, f⟩ := s
  simp only [i64ok, u64ok] at hob hol hom hoh hoc hot hof
  show Calls Tryd.prog 54 #[.agg #[.int .i64 b, .int .i64 l, .int .i64 m, .int .i64 hi, .int .i64 c, .int .u64 t, .int .u64 f]] w _
  have kc := conv_last
  have HA := SAt.new 51 w ⟨b, l, m, hi, c, t, f⟩
  have hX : IsB [1, 0, b % 256, l % 256, m % 256, hi % 256, c % 256, 0, 0, 0] := fun x hx => by
    simp at hx
    omega
  obtain ⟨X, hXX⟩ : ∃ X, magicL ++ [1, 0, b % 256, l % 256, m % 256, hi % 256, c % 256, 0, 0, 0] = X := ⟨_, rfl⟩
  have hXl : X.length = 16 := by rw [← hXX]; rfl
  have HX := Lib.hid hXX
  have hE : enc7 (lowS ⟨b, l, m, hi, c, t, f⟩) = X ++ le 8 t ++ le 8 f ++ List.replicate 28 0 ++ le 4 (sum (X ++ le 8 t ++ le 8 f ++ List.replicate 28 0)) := by
    rw [← hXX]; rfl
  have hYl : (X ++ le 8 t ++ le 8 f ++ List.replicate 28 (0 : Int)).length = 60 := by simp [hXl, le_length]
  obtain ⟨Y, hY⟩ : ∃ Y, X ++ le 8 t ++ le 8 f ++ List.replicate 28 (0 : Int) = Y := ⟨_, rfl⟩
  rw [hY] at hE hYl
  have hsr := sum_range Y
  obtain ⟨z, hz⟩ : ∃ z, sum Y = z := ⟨_, rfl⟩
  rw [hz] at hsr hE
  have HY := Lib.hid hY
  have HZ := Lib.hid hz
  rw [hE]
  clear hE hXX hY hz
  go_enter Tryd.func54, Tryd.ntmps54
  go_wp2_with (at_builtin; refine wpList_appG rfl (.tmp 8) (.tmp 24) 25 rfl Tryd.underlying25 oinfo5 (some ⟨w.heap.size + 1 + 1, 0, none⟩) (.slice (some ⟨w.heap.size + 1 + 1 + 1, 0, none⟩) 10 10) magicL [1, 0, b % 256, l % 256, m % 256, hi % 256, c % 256, 0, 0, 0] rfl rfl (RBy.lit _ (heap_under _ (heap_top _ _ _ (by simp))) rfl rfl rfl (by decide)) (RBy.row (heap_top _ _ _ (by simp)) _ hX 10 (Nat.le_refl _) (by simp) rfl) (by simp) (by simp [magicL]) ?_; intro v1 w5 ho5 hg5; rw [HX.out] at ho5; have hbb : Below (w.alloc (.cells (Sup.cells ⟨b, l, m, hi, c, t, f⟩) 51)).heap.size (w.alloc (.cells (Sup.cells ⟨b, l, m, hi, c, t, f⟩) 51)) w5 := (below_alloc (below_alloc (below_alloc (Below.refl _ _) _) _) _).grown hg5 (by simp <;> omega) (fun k hk => by cases hk); have HA5 := HA.below hbb; have h5 : w5.cell? ⟨w.heap.size, 5, none⟩ = some (.int .u64 t) := HA5.t; have hb5 := below_then (below_alloc (Below.refl w.heap.size w) _) hbb; have ho5' := ho5.lower (b2 := w.heap.size + 1) (by simp <;> omega); clear hbb HA hg5 ho5)
  refine (low8_any t _ hot).mono ?_
  rintro e w6 ⟨v2, rfl, ho6, hb6⟩
  have ho5 := ho5'.below hb6
  have hb6' := below_then hb5 hb6
  have hsz5 : w.heap.size + 1 ≤ w5.heap.size := by have := HA5.lt; omega
  have hsz6 : w.heap.size + 1 ≤ w6.heap.size := Nat.le_trans hsz5 hb6.size
  have HA6 := HA5.below hb6
  clear ho5' hb5 h5 HA5
  go_wp2_with (at_builtin; refine wpList_app rfl (.tmp 26) (.tmp 29) 25 rfl Tryd.underlying25 info5 (w.heap.size + 1) v1 v2 X (le 8 t) rfl rfl ho5 ho6.reads (by rw [hXl, le_length]; omega) hsz6 ?_; intro v3 w7 ho7 hg7 _; have hb7 := below_grown hb6' ho5 (Nat.le_succ _) hg7; have HA7 := HA6.grown ho5 (Nat.lt_succ_self _) hg7; have h6 : w7.cell? ⟨w.heap.size, 6, none⟩ = some (.int .u64 f) := HA7.f; clear hg7 ho5 ho6 hb6)
  refine (low8_any f _ hof).mono ?_
  rintro e w8 ⟨v4, rfl, ho8, hb8⟩
  have ho7' := ho7.below hb8
  have hb8' := below_then hb7 hb8
  have hsz8 : w.heap.size + 1 ≤ w8.heap.size := by have := HA7.lt; have := hb8.size; omega
  clear ho7 hb7 h6 HA7 hb6' HA6
  go_wp2_with (first
    | (at_builtin; refine wpList_app rfl (.tmp 31) (.tmp 34) 25 rfl Tryd.underlying25 info5 (w.heap.size + 1) v3 v4 (X ++ le 8 t) (le 8 f) rfl rfl ho7' ho8.reads (by rw [List.length_append, hXl, le_length, le_length]; omega) hsz8 ?_; intro v5 w9 ho9 hg9 _; have hb9 := below_grown hb8' ho7' (Nat.le_succ _) hg9; have hsz9 : w.heap.size + 1 ≤ w9.heap.size := Nat.le_trans hsz8 hg9.size; clear hg9 ho7' ho8 hb8)
    | (at_builtin; refine wpList_zeros rfl (.tmp 36) (.const (.int .i64 28)) 25 3 rfl Tryd.underlying25 Tryd.underlying3 oinfo5 (w.heap.size + 1) v5 (X ++ le 8 t ++ le 8 f) .i64 28 rfl rfl ho9 (by simp [hXl, le_length]) hsz9 ?_; intro v6 wA hoA hgA; have hbA := below_grown hb9 ho9 (Nat.le_succ _) hgA; have hszA : w.heap.size + 1 ≤ wA.heap.size := Nat.le_trans hsz9 hgA.size; clear hgA ho9))
  rw [HY.out] at hoA
  refine (ssum_any _ _ _ hoA.reads).mono ?_
  rw [HZ.out]
  rintro e w' ⟨rfl, rfl⟩
  go_wp2_with fail
  refine (low4_any z _ ⟨hsr.1, by omega⟩).mono ?_
  rintro e wB ⟨v7, rfl, hoB, hbB⟩
  have hoA' := hoA.below hbB
  have hbB' := below_then hbA hbB
  have hszB : w.heap.size + 1 ≤ wB.heap.size := Nat.le_trans hszA hbB.size
  go_wp2_with (at_builtin; refine wpList_app rfl (.tmp 38) (.tmp 42) 25 rfl Tryd.underlying25 info5 (w.heap.size + 1) v6 v7 Y (le 4 z) rfl rfl hoA' hoB.reads (by rw [hYl, le_length]; omega) hszB ?_; intro v8 wC hoC hgC _; have hbC := below_grown hbB' hoA' (Nat.le_succ _) hgC)
  go_ret
  exact ⟨_, rfl, hoC.lower (Nat.le_succ _), hbC⟩
end Go.Proofs.YtblfmofhfbbmdaaDoor
