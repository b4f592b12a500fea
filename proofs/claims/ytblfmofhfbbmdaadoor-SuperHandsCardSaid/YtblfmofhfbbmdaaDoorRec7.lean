/- The program's Decode. -/
import Derived.Test.YtblfmofhfbbmdaaDoorRec5
import Derived.Test.YtblfmofhfbbmdaaDoorStr
import Derived.Laws.CopyOwn
set_option linter.unusedVariables false
set_option linter.unusedSimpArgs false
namespace Go.Proofs.YtblfmofhfbbmdaaDoor
open Go.RowKit Crc Go.Proofs.YtblfmofhfbbmdaaDoorW.PrintWords Go.Proofs.YtblfmofhfbbmdaaDoorW.PrintLast

/-- What stands in a sector's bytes. -/
def decR (b : List Int) : Rec :=
  let k := b[1]?.getD 0
  let n := numU ((b.take 16).drop 12)
  ⟨k, numU ((b.take 12).drop 4), if k = 1 then n else 0, (b.take 48).drop 16, if k = 2 then n else 0⟩
def decOk (b : List Int) : Bool := decide (b.length = 64) && (okRec (decR b) && encL (decR b) == b)
def decV (b : List Int) : Rec := if decOk b = true then decR b else Rec.zero
def decE (b : List Int) : Int := if b.length = 64 then (if decOk b = true then 0 else 60) else 2

theorem results_cell_tmp {fn : Func} {p q : Tmp} {ty : TypeId} (h : fn.results = #[.cell p ty, .tmp q]) (tmps : Array Value) (w : World) (g : Nat) (cs : Array Value) (x : Value)
    (hl : (loadVar ty ⟨g, 0, none⟩).run Tryd.prog w = .ok (.agg cs) w) (hp : tmps.getD p undef = .pointer (some ⟨g, 0, none⟩)) (hq : tmps.getD q undef = x) :
    (results fn tmps).run Tryd.prog w = .ok (.tuple #[.agg cs, x]) w := by
  have hp' : tmps[p]?.getD undef = .pointer (some ⟨g, 0, none⟩) := by simpa using hp
  have hq' : tmps[q]?.getD undef = x := by simpa using hq
  simp [results, h, hp', hq', asAddr, hl]
theorem fields_84 (b : List Int) (hl : b.length = 64) : fields ((b.take 16).drop 4) [8, 4] = ([numU ((b.take 12).drop 4), numU ((b.take 16).drop 12)], [], 0) := by
  have hlb : ((b.take 16).drop 4).length = 12 := by simp; omega
  have e1 : (((b.take 16).drop 4).take 8) = (b.take 12).drop 4 := by rw [List.take_drop, List.take_take]; rfl
  have e2 : ((((b.take 16).drop 4).drop 8).take 4) = (b.take 16).drop 12 := by rw [List.drop_drop, List.take_of_length_le (by simp; omega)]
  have e3 : ((((b.take 16).drop 4).drop 8).drop 4) = [] := by rw [List.drop_drop, List.drop_drop]; exact List.drop_of_length_le (by simp; omega)
  have hg : fieldsGo ((b.take 16).drop 4) [8, 4] = some ([numU ((b.take 12).drop 4), numU ((b.take 16).drop 12)], []) := by
    rw [fieldsGo, if_neg (by rw [hlb]; decide), fieldsGo, if_neg (by rw [List.length_drop, hlb]; decide), fieldsGo]
    simp only [Option.map_some]
    rw [show ((8 : Int).toNat) = 8 from rfl, show ((4 : Int).toNat) = 4 from rfl, e1, e2, e3]
  rw [fields_ok (by intro s hs; simp at hs; rcases hs with rfl | rfl <;> (unfold okSize; omega)) hg]

set_option maxRecDepth 100000 in
set_option maxHeartbeats 4000000 in
theorem dec_len (v : Value) (b : List Int) (w : World) (hv : RBy w v b) (hl : b.length ≠ 64) :
    Calls Tryd.prog 39 #[v] w fun e w' => e = .returned (.tuple #[.agg (decV b).cells, .int .i64 (decE b)]) ∧ Below w.heap.size w w' := by
  have hE : Hid (decE b = 2) := Lib.hid (by rw [decE, if_neg hl])
  have hV : Hid (decV b = Rec.zero) := Lib.hid (by rw [decV, decOk]; simp [hl])
  rw [hE.out, hV.out]
  obtain ⟨A, c, rfl, -⟩ := hv.form
  have hne : ((b.length : Int) != 64) = true := by simp; omega
  have HZ := Lib.hid (At.new 66 w Rec.zero)
  clear hl hv
  go_enter Tryd.func39, Tryd.ntmps39
  go_wp2_with (first
    | (refine go_value (o := ⟨some 2, _, _, _, _, _⟩) (by rfl) (ex_alloc (run_alloc66 _) rfl) ?_)
    | (refine go_value (o := ⟨some 11, _, _, _, _, _⟩) (by rfl) (ex_build b66_none rfl rfl) ?_)
    | (refine go_skip (o := ⟨none, .store 66 _ _, _, _, _, _⟩) (by rfl) (ex_store (HZ.out.store66 zero_n zero_n) rfl rfl rfl) ?_))
  refine bodyPost_ret_by (results_cell_tmp (p := 2) (q := 3) (ty := 66) (by kernel_rfl) _ _ w.heap.size Rec.zero.cells (.int .i64 2) ((HZ.out.set (s := Rec.zero)).load66 zero_n) rfl rfl) rfl ⟨rfl, Below.setRow' (below_alloc (Below.refl _ _) _) (Nat.le_refl _) _⟩

/-- One byte of those that are read. -/
theorem RBy.at {w : World} {ad : Addr} {n c : Nat} {xs : List Int} (h : RBy w (.slice (some ad) n c) xs) (j : Nat) (hj : j < xs.length) : w.cell? (ad.add j) = some (.int .u8 (xs[j]?.getD 0)) := by
  obtain ⟨A, c', e, -, -, -, -, h5⟩ := h
  simp only [Value.slice.injEq] at e
  obtain ⟨rfl, -, -⟩ := e
  obtain ⟨ad', e', hc⟩ := h5 (by omega)
  cases e'
  exact hc j hj
theorem IsB.at {xs : List Int} (h : IsB xs) (j : Nat) : 0 ≤ xs[j]?.getD 0 ∧ xs[j]?.getD 0 < 256 := by
  by_cases hj : j < xs.length
  · rw [List.getElem?_eq_getElem hj]; exact h _ (List.getElem_mem hj)
  · rw [List.getElem?_eq_none (by omega)]; decide
theorem decR_ok (b : List Int) (hb : IsB b) (hl : b.length = 64) : (decR b).ok := by
  have h1 := hb.at 1
  have h2 := numU_range ((b.take 12).drop 4)
  have h3 : numU ((b.take 16).drop 12) < 256 ^ ((b.take 16).drop 12).length := numU_lt _ ((hb.take 16).drop 12) (by simp; omega)
  have h4 := numU_range ((b.take 16).drop 12)
  have h5 : ((b.take 16).drop 12).length = 4 := by simp; omega
  rw [h5] at h3
  refine ⟨?_, h2, ?_, (hb.take 48).drop 16, by simp [decR]; omega, ?_⟩
  · show _ ≤ b[1]?.getD 0 ∧ b[1]?.getD 0 ≤ _; omega
  · show _ ≤ (if b[1]?.getD 0 = 1 then numU ((b.take 16).drop 12) else 0) ∧ (if b[1]?.getD 0 = 1 then numU ((b.take 16).drop 12) else 0) ≤ _
    split <;> omega
  · show _ ≤ (if b[1]?.getD 0 = 2 then numU ((b.take 16).drop 12) else 0) ∧ (if b[1]?.getD 0 = 2 then numU ((b.take 16).drop 12) else 0) ≤ _
    split <;> omega
theorem Rec.setv (r : Rec) (v : List Int) (h : r.v.length = 32) (hv : v.length = 32) : (splice r.cells.toList 3 (bytes v)).toArray = ({ r with v := v } : Rec).cells := by
  apply Array.ext'
  simp only [splice, Rec.cells, bytes_length, hv]
  simp [List.drop_append, bytes_length, h]
theorem Rec.setb (r : Rec) (b : Int) : r.cells.setIfInBounds 2 (.int .i64 b) = ({ r with b := b } : Rec).cells := by
  apply Array.ext'
  simp [Rec.cells]
theorem Rec.seti (r : Rec) (i : Int) (h : r.v.length = 32) : r.cells.setIfInBounds 35 (.int .i64 i) = ({ r with i := i } : Rec).cells := by
  apply Array.ext'
  simp [Rec.cells, List.set_append, bytes_length, h]
def T39_6 : Bool × List (List Nat × List Nat) := (true, [([], []), ([0], [0]), ([1], [1]), ([2], [2]), ([], []), ([4], [4]), ([5], [5]), ([3, 6], [3, 6]), ([], []), ([8, 7, 0, 1, 2, 3, 4, 5, 6, 7, 8], [7, 8])])
def B39_6 : List Nat := [0, 1, 3, 7, 0, 16, 48, 127, 0, 511]
theorem tab39_6 : rtab .any (opsOf Tryd.f39 6) = T39_6 := by kernel_rfl
theorem bits39_6 : waitsOk T39_6.2 B39_6 = true := by kernel_rfl
def T39_7 : Bool × List (List Nat × List Nat) := (true, [([], []), ([0], [0]), ([], []), ([2], [2]), ([1, 3], [1, 3])])
def B39_7 : List Nat := [0, 1, 0, 4, 15]
theorem tab39_7 : rtab .any (opsOf Tryd.f39 7) = T39_7 := by kernel_rfl
theorem bits39_7 : waitsOk T39_7.2 B39_7 = true := by kernel_rfl
set_option maxRecDepth 100000 in
set_option maxHeartbeats 4000000 in
theorem dec_any (v : Value) (b : List Int) (w : World) (hv : RBy w v b) (hl : b.length = 64) (ht : Tab w) :
    Calls Tryd.prog 39 #[v] w fun e w' => e = .returned (.tuple #[.agg (decV b).cells, .int .i64 (decE b)]) ∧ Below w.heap.size w w' := by
  obtain ⟨A, c, rfl, hc, hn, hb, hA, hcell⟩ := id hv
  obtain ⟨ad, rfl, hcs⟩ := hcell (by omega)
  rw [hl] at hv hc ⊢
  have Ht := Lib.hid ht
  have HZ := Lib.hid (At.new 66 w Rec.zero)
  have hc4 : c ≠ 4 := by omega
  have hvs := (hv.first (m := 16) (by omega)).rest (s := 4) (by simp; omega)
  rw [if_neg hc4, show ad.add 4 = ⟨ad.block, ad.off + 4, none⟩ by simp [Addr.add]] at hvs
  have hlb : ((b.take 16).drop 4).length = 12 := by simp; omega
  have hf := fields_84 b hl
  have Hf := Lib.hid hf
  have Hvs := Lib.hid hvs
  have Hlb := Lib.hid hlb
  have Hv := Lib.hid hv
  have Hb := Lib.hid hb
  have Hcs := Lib.hid hcs
  have hb0 := Lib.hid (below_alloc (Below.refl w.heap.size w) (.cells Rec.zero.cells 66))
  clear hf hvs hlb hv hcell ht hb hcs hA hn
  go_enter Tryd.func39, Tryd.ntmps39
  go_wp2_with (first
    | (refine go_value (o := ⟨some 2, _, _, _, _, _⟩) (by rfl) (ex_alloc (run_alloc66 _) rfl) ?_)
    | fail)
  refine (fields_any _ _ _ [8, 4] _ (Hvs.out.below (below_alloc (below_alloc (Below.refl _ _) _) _)) (RI.lit [8, 4] (heap_top _ _ _ (by simp)) rfl rfl (by decide) (by decide)) (by decide) (by rw [Hlb.out]; decide) (by decide)).mono ?_
  rw [Hf.out]
  have hp := numU_range ((b.take 12).drop 4)
  have hq := numU_range ((b.take 16).drop 12)
  obtain ⟨p0, hp0⟩ : ∃ p0, numU ((b.take 12).drop 4) = p0 := ⟨_, rfl⟩
  obtain ⟨q0, hq0⟩ : ∃ q0, numU ((b.take 16).drop 12) = q0 := ⟨_, rfl⟩
  rw [hp0] at hp
  rw [hq0] at hq
  rw [hp0, hq0]
  rintro e w1 ⟨v1, v2, rfl, ho1, ho2, hb1⟩
  obtain ⟨g1, cap1, rfl, hg1, hcap1, -, -⟩ := ho1.form (by simp)
  simp only [List.length_cons, List.length_nil] at hcap1 ⊢
  have n0 := ho1.cell 0 (by simp)
  have n1 := ho1.cell 1 (by simp)
  simp only [List.getElem?_cons_zero, List.getElem?_cons_succ, Option.getD_some] at n0 n1
  have hB1 := Lib.hid (below_then (below_alloc hb0.out _) hb1)
  have HZ1 := Lib.hid ((HZ.out.below (below_alloc (Below.refl _ _) (.cells #[.int .i64 8, .int .i64 4] 3))).below hb1)
  have N0 := Lib.hid n0
  have N1 := Lib.hid n1
  have Hp0 := Lib.hid hp0
  have Hq0 := Lib.hid hq0
  have Hv1 := Lib.hid (Hv.out.below hB1.out)
  clear ho1 ho2 hb1 n0 n1 hp0 hq0 Hvs Hf Hlb HZ Hcs Hv
  have hk := (show IsB b from Hb.out).at 1
  have c1 := Hv1.out.at 1 (by omega)
  rw [show ad.add 1 = ⟨ad.block, ad.off + 1, none⟩ by simp [Addr.add]] at c1
  obtain ⟨k0, hk0⟩ : ∃ k0, b[1]?.getD 0 = k0 := ⟨_, rfl⟩
  rw [hk0] at hk c1
  have Hk0 := Lib.hid hk0
  have hwk : IntKind.i64.wrap k0 = k0 := by simp [IntKind.wrap, IntKind.bits, IntKind.signed]; omega
  clear hk0
  go_upto_region 6 with fail
  have hS0 : w1.drew.cell? ⟨ad.block, ad.off + 1, none⟩ = some (.int .u8 k0) ∧ w1.drew.cell? ⟨g1, 0, none⟩ = some (.int .u64 p0) := ⟨c1, N0.out⟩
  have HB1d := Lib.hid (below_drew hB1.out)
  have HZ1d := Lib.hid (HZ1.out.below (below_drew (Below.refl _ _)))
  have Hv1d := Lib.hid (Hv1.out.below (below_drew (Below.refl _ _)))
  have N1d : Hid (w1.drew.cell? ⟨g1, 1, none⟩ = some (.int .u64 q0)) := N1
  clear hB1 HZ1 Hv1 N1 N0 c1
  refine start_ (n := 10) (S := fun w' => w'.cell? ⟨ad.block, ad.off + 1, none⟩ = some (.int .u8 k0) ∧ w'.cell? ⟨g1, 0, none⟩ = some (.int .u64 p0)) (ds := []) #[false, false, false, false, false, false, false, false, false, false] (by kernel_rfl) rfl rfl (hS0) (fun hHeld => ?_); refine with_tabW tab39_6 bits39_6 (fun HT_ HW_ => ?_)
  clear hS0
  generalize w1.drew = w1d at HB1d HZ1d Hv1d N1d hHeld ⊢
  refine pure_ (i := 0) (N := (some 28)) (v := ?_) (a' := ?_) #[true, false, false, false, false, false, false, false, false, false] rfl rfl (any_of HT_.out (by kernel_rfl)) (fun _ _ _ h => h) (Or.inl ⟨by rfl, ?_⟩) ?_ ?_
  rotate_left
  · intro w'
    go_simp
    with_reducible rfl
  rotate_left
  · simp only [Act.put, List.setIfInBounds_toArray, List.set_cons_zero, List.set_cons_succ]
    rfl
  refine pure_ (i := 1) (N := (some 29)) (v := ?_) (a' := ?_) #[true, true, false, false, false, false, false, false, false, false] rfl rfl (any_of HT_.out (by kernel_rfl)) (fun _ _ _ h => h) (Or.inl ⟨by rfl, ?_⟩) ?_ ?_
  rotate_left
  · intro w'
    go_simp
    with_reducible rfl
  rotate_left
  · simp only [Act.put, List.setIfInBounds_toArray, List.set_cons_zero, List.set_cons_succ]
    rfl
  refine take_ (i := 2) (N := (some 30)) (v := ?_) (a' := ?_) #[true, true, true, false, false, false, false, false, false, false] rfl rfl (take_of HT_.out (by kernel_rfl)) (fun _ _ _ h => h) (Or.inl ⟨by rfl, ?_⟩) hHeld ?_ ?_
  rotate_left
  · intro w' hw'
    obtain ⟨q1, q2⟩ := hw'
    go_simp
    with_reducible rfl
  rotate_left
  · simp only [Act.put, List.setIfInBounds_toArray, List.set_cons_zero, List.set_cons_succ]
    rfl
  refine pure_ (i := 3) (N := (some 31)) (v := ?_) (a' := ?_) #[true, true, true, true, false, false, false, false, false, false] rfl rfl (any_of HT_.out (by kernel_rfl)) (fun _ _ _ h => h) (Or.inl ⟨by rfl, ?_⟩) ?_ ?_
  rotate_left
  · intro w'
    go_simp
    with_reducible rfl
  rotate_left
  · simp only [Act.put, List.setIfInBounds_toArray, List.set_cons_zero, List.set_cons_succ]
    rfl
  refine pure_ (i := 4) (N := (some 32)) (v := ?_) (a' := ?_) #[true, true, true, true, true, false, false, false, false, false] rfl rfl (any_of HT_.out (by kernel_rfl)) (fun _ _ _ h => h) (Or.inl ⟨by rfl, ?_⟩) ?_ ?_
  rotate_left
  · intro w'
    go_simp
    with_reducible rfl
  rotate_left
  · simp only [Act.put, List.setIfInBounds_toArray, List.set_cons_zero, List.set_cons_succ]
    rfl
  refine pure_ (i := 5) (N := (some 33)) (v := ?_) (a' := ?_) #[true, true, true, true, true, true, false, false, false, false] rfl rfl (any_of HT_.out (by kernel_rfl)) (fun _ _ _ h => h) (Or.inl ⟨by rfl, ?_⟩) ?_ ?_
  rotate_left
  · intro w'
    go_simp
    with_reducible rfl
  rotate_left
  · simp only [Act.put, List.setIfInBounds_toArray, List.set_cons_zero, List.set_cons_succ]
    rfl
  refine take_ (i := 6) (N := (some 34)) (v := ?_) (a' := ?_) #[true, true, true, true, true, true, true, false, false, false] rfl rfl (take_of HT_.out (by kernel_rfl)) (fun _ _ _ h => h) (Or.inl ⟨by rfl, ?_⟩) hHeld ?_ ?_
  rotate_left
  · intro w' hw'
    obtain ⟨q1, q2⟩ := hw'
    go_simp
    with_reducible rfl
  rotate_left
  · simp only [Act.put, List.setIfInBounds_toArray, List.set_cons_zero, List.set_cons_succ]
    rfl
  refine pure_ (i := 7) (N := (some 35)) (v := .agg (Rec.mk k0 p0 0 zero32 0).cells) #[true, true, true, true, true, true, true, true, false, false] rfl rfl (any_of HT_.out (by kernel_rfl)) (fun _ _ _ h => h) (Or.inl ⟨by rfl, fun w' => ex_build (b66_kp k0 p0) rfl rfl⟩) rfl ?_
  refine norm_ (a' := ?_) ?_ ?_
  rotate_left
  · show Act.put _ (some 35) _ = _
    simp only [Act.put, List.setIfInBounds_toArray, List.set_cons_zero, List.set_cons_succ]
    rfl
  have hs1 := hHeld
  refine one_ (i := 8) (N := (some 7)) #[true, true, true, true, true, true, true, true, true, false] rfl rfl (one_of HT_.out (by kernel_rfl)) (by decide) (fun K hK => ?_)
  refine value_ (by rfl) rfl (ex_alloc (run_alloc66 _) rfl) ?_
  refine hK.out _ _ (⟨keep_cell (below_alloc (Below.refl _ _) _) (Nat.le_refl _) hHeld.1, keep_cell (below_alloc (Below.refl _ _) _) (Nat.le_refl _) hHeld.2⟩) (fun hHeld => ?_)
  clear hK K
  refine norm_ (a' := ?_) ?_ ?_
  rotate_left
  · show Act.put _ (some 7) _ = _
    simp only [Act.put, List.setIfInBounds_toArray, List.set_cons_zero, List.set_cons_succ]
    rfl
  refine one_ (i := 9) (N := none) #[true, true, true, true, true, true, true, true, true, true] rfl rfl (one_of HT_.out (by kernel_rfl)) (by decide) (fun K hK => ?_)
  have hbs := Below.setRow' (below_alloc (Below.refl w1d.heap.size w1d) (.cells Rec.zero.cells 66)) (Nat.le_refl _) (Rec.mk k0 p0 0 zero32 0).cells
  have HAx := Lib.hid ((At.new 66 w1d Rec.zero).set (s := Rec.mk k0 p0 0 zero32 0))
  have Hbs := Lib.hid hbs
  refine skip_ (by rfl) rfl (ex_store ((At.new 66 w1d Rec.zero).store66 zero_n (s := Rec.mk k0 p0 0 zero32 0) rfl) rfl rfl rfl) ?_
  refine hK.out _ _ ⟨keep_cell hbs (Nat.le_refl _) hs1.1, keep_cell hbs (Nat.le_refl _) hs1.2⟩ (fun hHeld => ?_)
  clear hK K hHeld hbs hs1
  refine done_ (done_of HT_.out (by kernel_rfl)) ?_
  obtain ⟨g, hg⟩ : ∃ g, w1d.heap.size = g := ⟨_, rfl⟩
  rw [hg] at HAx Hbs ⊢
  have HG := Lib.hid hg
  generalize (w1d.alloc (.cells Rec.zero.cells 66)).setRow g (Rec.mk k0 p0 0 zero32 0).cells = w2 at HAx Hbs ⊢
  clear hg HT_ HW_
  go_upto_region 7 with fail
  have Hbd := Lib.hid (below_drew Hbs.out)
  have HAd : Hid (At 66 w2.drew g (Rec.mk k0 p0 0 zero32 0)) := Lib.hid (HAx.out.below (below_drew (Below.refl _ _)))
  clear Hbs HAx
  have hvl : ((b.take 48).drop 16).length = 32 := by simp; omega
  have hvb := bytes_length ((b.take 48).drop 16)
  have hcz : (Rec.mk k0 p0 0 zero32 0).cells.toList.length = 36 := by rw [Array.length_toList, Rec.size rfl]
  have hc16 : c ≠ 16 := by omega
  refine start_ (n := 5) (S := fun _ => True) (ds := []) #[false, false, false, false, false] (by kernel_rfl) rfl rfl (trivial) (fun hHeld => ?_); refine with_tabW tab39_7 bits39_7 (fun HT_ HW_ => ?_)
  generalize w2.drew = w2d at Hbd HAd ⊢
  have hpos : 0 < (bytes ((b.take 48).drop 16)).length → (some ⟨g, 3, none⟩ : Option Addr) = some ⟨g, 3, none⟩ ∧ ∃ ad', (some ⟨ad.block, ad.off + 16, none⟩ : Option Addr) = some ad' ∧ ∀ j u, (bytes ((b.take 48).drop 16))[j]? = some u → w2d.cell? (ad'.add j) = some u := fun _ => ⟨rfl, _, rfl, fun j u hj => by
    have hjl : j < 32 := by have := (List.getElem?_eq_some_iff.1 hj).1; rw [hvb, hvl] at this; exact this
    rw [bytes_get _ _ (by rw [hvl]; exact hjl), List.getElem?_drop, List.getElem?_take, if_pos (by omega)] at hj
    cases hj
    have h9 := Hv1d.out.at (16 + j) (by omega)
    rw [← Deep.add_add, show ad.add 16 = ⟨ad.block, ad.off + 16, none⟩ by simp [Addr.add]] at h9
    exact keep_cell (w := w1d) (B := w1d.heap.size) (by rw [HG.out]; exact Hbd.out) (Nat.le_refl _) h9⟩
  have Hpos := Lib.hid hpos
  clear hpos
  refine pure_ (i := 0) (N := (some 36)) (v := ?_) (a' := ?_) #[true, false, false, false, false] rfl rfl (any_of HT_.out (by kernel_rfl)) (fun _ _ _ h => h) (Or.inl ⟨by rfl, ?_⟩) ?_ ?_
  rotate_left
  · intro w'
    go_simp
    with_reducible rfl
  rotate_left
  · simp only [Act.put, List.setIfInBounds_toArray, List.set_cons_zero, List.set_cons_succ]
    rfl
  refine pure_ (i := 1) (N := (some 37)) (v := ?_) (a' := ?_) #[true, true, false, false, false] rfl rfl (any_of HT_.out (by kernel_rfl)) (fun _ _ _ h => h) (Or.inl ⟨by rfl, ?_⟩) ?_ ?_
  rotate_left
  · intro w'
    go_simp
    with_reducible rfl
  rotate_left
  · simp only [Act.put, List.setIfInBounds_toArray, List.set_cons_zero, List.set_cons_succ]
    rfl
  refine pure_ (i := 2) (N := (some 38)) (v := ?_) (a' := ?_) #[true, true, true, false, false] rfl rfl (any_of HT_.out (by kernel_rfl)) (fun _ _ _ h => h) (Or.inl ⟨by rfl, ?_⟩) ?_ ?_
  rotate_left
  · intro w'
    go_simp
    with_reducible rfl
  rotate_left
  · simp only [Act.put, List.setIfInBounds_toArray, List.set_cons_zero, List.set_cons_succ]
    rfl
  refine pure_ (i := 3) (N := (some 39)) (v := ?_) (a' := ?_) #[true, true, true, true, false] rfl rfl (any_of HT_.out (by kernel_rfl)) (fun _ _ _ h => h) (Or.inl ⟨by rfl, ?_⟩) ?_ ?_
  rotate_left
  · intro w'
    go_simp
    with_reducible rfl
  rotate_left
  · simp only [Act.put, List.setIfInBounds_toArray, List.set_cons_zero, List.set_cons_succ]
    rfl
  refine one_ (i := 4) (N := (some 40)) #[true, true, true, true, true] rfl rfl (one_of HT_.out (by kernel_rfl)) (by decide) (fun K hK => ?_)
  refine step_copy_splice rfl (.tmp 37) (.tmp 39) 25 25 rfl 5 Tryd.underlying25 (by kernel_rfl) _ _ 32 32 48 (c - 16) rfl rfl g 3 (Rec.mk k0 p0 0 zero32 0).cells.toList 66 HAd.out (bytes ((b.take 48).drop 16)) (by rw [hvb, hvl]; rfl) Hpos.out (by omega) (fun u hu => by simp only [bytes, List.mem_map] at hu; obtain ⟨z, _, rfl⟩ := hu; rfl) g w1d Hbd.out (Nat.le_refl _) ?_
  intro w3 hw3 hb3
  have HA3 : Hid (At 66 w3 g (Rec.mk k0 p0 0 ((b.take 48).drop 16) 0)) := Lib.hid (by have h9 := hw3.out; rw [Rec.setv _ _ rfl hvl] at h9; exact h9)
  have hb3' : Below w1d.heap.size w1d w3 := by rw [HG.out]; exact hb3
  have Hb3 := Lib.hid hb3'
  have N3 := Lib.hid (keep_cell hb3' (Nat.le_refl _) N1d.out)
  have hsg := Lib.hid (show w.heap.size < g by rw [← HG.out]; exact HZ1d.out.lt)
  refine hK.out _ _ trivial (fun _ => ?_)
  clear hK K hw3 hb3 hb3' hcz Hpos HAd Hbd N1d
  refine norm_ (a' := ?_) ?_ ?_
  rotate_left
  · show Act.put _ (some 40) _ = _
    simp only [Act.put, List.setIfInBounds_toArray, List.set_cons_zero, List.set_cons_succ]
    rfl
  refine done_ (done_of HT_.out (by kernel_rfl)) ?_
  clear HT_ HW_
  have h0 := HA3.out.c0
  have hq4 : q0 < 4294967296 := by
    have h3 : numU ((b.take 16).drop 12) < 256 ^ ((b.take 16).drop 12).length := numU_lt _ (IsB.drop (IsB.take Hb.out 16) 12) (by simp; omega)
    rw [show ((b.take 16).drop 12).length = 4 by simp; omega, Hq0.out] at h3
    exact h3
  have hdo := decR_ok b Hb.out hl
  have hdn := hdo.n
  by_cases hk1 : k0 = 1
  · have HD : Rec.mk k0 p0 q0 ((b.take 48).drop 16) 0 = decR b := by simp [decR, Hk0.out, Hp0.out, Hq0.out, hk1]
    rw [hk1] at h0
    clear hk1
    have HA4 : Hid (At 66 (w3.setCell ⟨g, 2, none⟩ (.int .i64 q0)) g (decR b)) := Lib.hid (by have h9 := heap_setCell_same w3 g 2 _ _ (.int .i64 q0) HA3.out; rw [Rec.setb _ _, HD] at h9; exact h9)
    have hb4 : Below w1d.heap.size w1d (w3.setCell ⟨g, 2, none⟩ (.int .i64 q0)) := Hb3.out.setCell (by rw [HG.out]; exact Nat.le_refl _) _
    have HB4 := Lib.hid (below_then HB1d.out hb4)
    have HZ4 := Lib.hid (HZ1d.out.below hb4)
    have Hv4 := Lib.hid (Hv1d.out.below hb4)
    have n3 := N3.out
    have cc := HA3.out.c2
    have ff := HA3.out.free 2
    have hwq : IntKind.i64.wrap q0 = q0 := by simp [IntKind.wrap, IntKind.bits, IntKind.signed]; omega
    clear hb4
    clear HB1d HZ1d Hv1d Hb3 HA3 N3 HD
    by_cases hok : okRec (decR b) = true
    · have Hm := Lib.hid (okRec_may hdo hok)
      have Hchk : Hid (chkE (decR b) = 0) := Lib.hid (by rw [chkE, if_pos hok])
      by_cases heq : encL (decR b) = b
      · have hd : decOk b = true := by simp [decOk, hl, hok, heq]
        have HE : Hid (decE b = 0) := Lib.hid (by rw [decE, if_pos hl, if_pos hd])
        have HV : Hid (decV b = decR b) := Lib.hid (by rw [decV, if_pos hd])
        have Heq := Lib.hid heq
        clear hd heq hok
        go_wp2_with (first
          | (refine go_value (o := ⟨some 57, _, _, _, _, _⟩) (by rfl) (ex_load (HA4.out.load66 hdn) rfl rfl) ?_)
          | (go_at_call 38; refine (chk_any (decR b) _ hdo).mono ?_; rw [Hchk.out]; rintro e w5 ⟨rfl, hb⟩; have HB5 := Lib.hid (below_then HB4.out hb); have HZ5 := Lib.hid (HZ4.out.below hb); have HA5 := Lib.hid (HA4.out.below hb); have Hv5 := Lib.hid (Hv4.out.below hb); clear hb)
          | (refine go_value (o := ⟨some 61, _, _, _, _, _⟩) (by rfl) (ex_load (HA5.out.load66 hdn) rfl rfl) ?_)
          | (go_at_call 67; refine (laid_any (decR b) _ hdo Hm.out (Ht.out.below HB5.out)).mono ?_; rintro e w6 ⟨v6, rfl, ho6, hb⟩; have HB6 := Lib.hid (below_then HB5.out hb); have HZ6 := Lib.hid (HZ5.out.below hb); have HA6 := Lib.hid (HA5.out.below hb); have Hv6 := Lib.hid (Hv5.out.below hb); have Ho6 := Lib.hid ho6.reads; clear hb ho6)
          | (go_at_call 66; refine (equal_yes _ _ (encL (decR b)) b _ Ho6.out Hv6.out Heq.out).mono ?_; rintro e w' ⟨rfl, rfl⟩)
          | (refine go_value (o := ⟨some 68, _, _, _, _, _⟩) (by rfl) (ex_load (HA6.out.load66 hdn) rfl rfl) ?_)
          | (refine go_skip (o := ⟨none, .store 66 _ _, _, _, _, _⟩) (by rfl) (ex_store (HZ6.out.store66 zero_n (s := decR b) hdn) rfl rfl rfl) ?_))
        refine bodyPost_ret_by (results_cell_tmp (p := 2) (q := 3) (ty := 66) (by kernel_rfl) _ _ w.heap.size (decR b).cells (.int .i64 0) ((HZ6.out.set (s := decR b)).load66 hdn) rfl rfl) rfl ⟨by rw [HE.out, HV.out], Below.setRow' HB6.out (Nat.le_refl _) _⟩
      · have hd : ¬ decOk b = true := by simp [decOk, heq]
        have HE : Hid (decE b = 60) := Lib.hid (by rw [decE, if_pos hl, if_neg hd])
        have HV : Hid (decV b = Rec.zero) := Lib.hid (by rw [decV, if_neg hd])
        have Heq := Lib.hid heq
        clear hd heq hok
        go_wp2_with (first
          | (refine go_value (o := ⟨some 57, _, _, _, _, _⟩) (by rfl) (ex_load (HA4.out.load66 hdn) rfl rfl) ?_)
          | (go_at_call 38; refine (chk_any (decR b) _ hdo).mono ?_; rw [Hchk.out]; rintro e w5 ⟨rfl, hb⟩; have HB5 := Lib.hid (below_then HB4.out hb); have HZ5 := Lib.hid (HZ4.out.below hb); have HA5 := Lib.hid (HA4.out.below hb); have Hv5 := Lib.hid (Hv4.out.below hb); clear hb)
          | (refine go_value (o := ⟨some 61, _, _, _, _, _⟩) (by rfl) (ex_load (HA5.out.load66 hdn) rfl rfl) ?_)
          | (go_at_call 67; refine (laid_any (decR b) _ hdo Hm.out (Ht.out.below HB5.out)).mono ?_; rintro e w6 ⟨v6, rfl, ho6, hb⟩; have HB6 := Lib.hid (below_then HB5.out hb); have HZ6 := Lib.hid (HZ5.out.below hb); have HA6 := Lib.hid (HA5.out.below hb); have Hv6 := Lib.hid (Hv5.out.below hb); have Ho6 := Lib.hid ho6.reads; clear hb ho6)
          | (go_at_call 66; refine (equal_no _ _ (encL (decR b)) b _ Ho6.out Hv6.out Heq.out).mono ?_; rintro e w' ⟨rfl, rfl⟩)
          | (refine go_value (o := ⟨some 67, _, _, _, _, _⟩) (by rfl) (ex_build b66_none rfl rfl) ?_)
          | (refine go_skip (o := ⟨none, .store 66 _ _, _, _, _, _⟩) (by rfl) (ex_store (HZ6.out.store66 zero_n (s := Rec.zero) zero_n) rfl rfl rfl) ?_))
        refine bodyPost_ret_by (results_cell_tmp (p := 2) (q := 3) (ty := 66) (by kernel_rfl) _ _ w.heap.size (Rec.zero).cells (.int .i64 60) ((HZ6.out.set (s := Rec.zero)).load66 zero_n) rfl rfl) rfl ⟨by rw [HE.out, HV.out], Below.setRow' HB6.out (Nat.le_refl _) _⟩
    · have Hchk : Hid (chkE (decR b) = 60) := Lib.hid (by rw [chkE, if_neg hok])
      have hd : ¬ decOk b = true := by simp [decOk, hok]
      have HE : Hid (decE b = 60) := Lib.hid (by rw [decE, if_pos hl, if_neg hd])
      have HV : Hid (decV b = Rec.zero) := Lib.hid (by rw [decV, if_neg hd])
      clear hd hok
      go_wp2_with (first
        | (refine go_value (o := ⟨some 57, _, _, _, _, _⟩) (by rfl) (ex_load (HA4.out.load66 hdn) rfl rfl) ?_)
        | (go_at_call 38; refine (chk_any (decR b) _ hdo).mono ?_; rw [Hchk.out]; rintro e w5 ⟨rfl, hb⟩; have HB5 := Lib.hid (below_then HB4.out hb); have HZ5 := Lib.hid (HZ4.out.below hb); have HA5 := Lib.hid (HA4.out.below hb); have Hv5 := Lib.hid (Hv4.out.below hb); clear hb)
        | (refine go_value (o := ⟨some 67, _, _, _, _, _⟩) (by rfl) (ex_build b66_none rfl rfl) ?_)
        | (refine go_skip (o := ⟨none, .store 66 _ _, _, _, _, _⟩) (by rfl) (ex_store (HZ5.out.store66 zero_n (s := Rec.zero) zero_n) rfl rfl rfl) ?_))
      refine bodyPost_ret_by (results_cell_tmp (p := 2) (q := 3) (ty := 66) (by kernel_rfl) _ _ w.heap.size (Rec.zero).cells (.int .i64 60) ((HZ5.out.set (s := Rec.zero)).load66 zero_n) rfl rfl) rfl ⟨by rw [HE.out, HV.out], Below.setRow' HB5.out (Nat.le_refl _) _⟩
  · have hk1b : (k0 == 1) = false := by simpa using hk1
    by_cases hk2 : k0 = 2
    · have HD : Rec.mk k0 p0 0 ((b.take 48).drop 16) q0 = decR b := by simp [decR, Hk0.out, Hp0.out, Hq0.out, hk2]
      rw [hk2] at h0
      clear hk1 hk1b hk2
      have HA4 : Hid (At 66 (w3.setCell ⟨g, 35, none⟩ (.int .i64 q0)) g (decR b)) := Lib.hid (by have h9 := heap_setCell_same w3 g 35 _ _ (.int .i64 q0) HA3.out; rw [Rec.seti _ _ hvl, HD] at h9; exact h9)
      have hb4 : Below w1d.heap.size w1d (w3.setCell ⟨g, 35, none⟩ (.int .i64 q0)) := Hb3.out.setCell (by rw [HG.out]; exact Nat.le_refl _) _
      have HB4 := Lib.hid (below_then HB1d.out hb4)
      have HZ4 := Lib.hid (HZ1d.out.below hb4)
      have Hv4 := Lib.hid (Hv1d.out.below hb4)
      have n3 := N3.out
      have cc := HA3.out.ci hvl
      have ff := HA3.out.free 35
      have hwq : IntKind.i64.wrap q0 = q0 := by simp [IntKind.wrap, IntKind.bits, IntKind.signed]; omega
      clear hb4
      clear HB1d HZ1d Hv1d Hb3 HA3 N3 HD
      by_cases hok : okRec (decR b) = true
      · have Hm := Lib.hid (okRec_may hdo hok)
        have Hchk : Hid (chkE (decR b) = 0) := Lib.hid (by rw [chkE, if_pos hok])
        by_cases heq : encL (decR b) = b
        · have hd : decOk b = true := by simp [decOk, hl, hok, heq]
          have HE : Hid (decE b = 0) := Lib.hid (by rw [decE, if_pos hl, if_pos hd])
          have HV : Hid (decV b = decR b) := Lib.hid (by rw [decV, if_pos hd])
          have Heq := Lib.hid heq
          clear hd heq hok
          go_wp2_with (first
            | (refine go_value (o := ⟨some 57, _, _, _, _, _⟩) (by rfl) (ex_load (HA4.out.load66 hdn) rfl rfl) ?_)
            | (go_at_call 38; refine (chk_any (decR b) _ hdo).mono ?_; rw [Hchk.out]; rintro e w5 ⟨rfl, hb⟩; have HB5 := Lib.hid (below_then HB4.out hb); have HZ5 := Lib.hid (HZ4.out.below hb); have HA5 := Lib.hid (HA4.out.below hb); have Hv5 := Lib.hid (Hv4.out.below hb); clear hb)
            | (refine go_value (o := ⟨some 61, _, _, _, _, _⟩) (by rfl) (ex_load (HA5.out.load66 hdn) rfl rfl) ?_)
            | (go_at_call 67; refine (laid_any (decR b) _ hdo Hm.out (Ht.out.below HB5.out)).mono ?_; rintro e w6 ⟨v6, rfl, ho6, hb⟩; have HB6 := Lib.hid (below_then HB5.out hb); have HZ6 := Lib.hid (HZ5.out.below hb); have HA6 := Lib.hid (HA5.out.below hb); have Hv6 := Lib.hid (Hv5.out.below hb); have Ho6 := Lib.hid ho6.reads; clear hb ho6)
            | (go_at_call 66; refine (equal_yes _ _ (encL (decR b)) b _ Ho6.out Hv6.out Heq.out).mono ?_; rintro e w' ⟨rfl, rfl⟩)
            | (refine go_value (o := ⟨some 68, _, _, _, _, _⟩) (by rfl) (ex_load (HA6.out.load66 hdn) rfl rfl) ?_)
            | (refine go_skip (o := ⟨none, .store 66 _ _, _, _, _, _⟩) (by rfl) (ex_store (HZ6.out.store66 zero_n (s := decR b) hdn) rfl rfl rfl) ?_))
          refine bodyPost_ret_by (results_cell_tmp (p := 2) (q := 3) (ty := 66) (by kernel_rfl) _ _ w.heap.size (decR b).cells (.int .i64 0) ((HZ6.out.set (s := decR b)).load66 hdn) rfl rfl) rfl ⟨by rw [HE.out, HV.out], Below.setRow' HB6.out (Nat.le_refl _) _⟩
        · have hd : ¬ decOk b = true := by simp [decOk, heq]
          have HE : Hid (decE b = 60) := Lib.hid (by rw [decE, if_pos hl, if_neg hd])
          have HV : Hid (decV b = Rec.zero) := Lib.hid (by rw [decV, if_neg hd])
          have Heq := Lib.hid heq
          clear hd heq hok
          go_wp2_with (first
            | (refine go_value (o := ⟨some 57, _, _, _, _, _⟩) (by rfl) (ex_load (HA4.out.load66 hdn) rfl rfl) ?_)
            | (go_at_call 38; refine (chk_any (decR b) _ hdo).mono ?_; rw [Hchk.out]; rintro e w5 ⟨rfl, hb⟩; have HB5 := Lib.hid (below_then HB4.out hb); have HZ5 := Lib.hid (HZ4.out.below hb); have HA5 := Lib.hid (HA4.out.below hb); have Hv5 := Lib.hid (Hv4.out.below hb); clear hb)
            | (refine go_value (o := ⟨some 61, _, _, _, _, _⟩) (by rfl) (ex_load (HA5.out.load66 hdn) rfl rfl) ?_)
            | (go_at_call 67; refine (laid_any (decR b) _ hdo Hm.out (Ht.out.below HB5.out)).mono ?_; rintro e w6 ⟨v6, rfl, ho6, hb⟩; have HB6 := Lib.hid (below_then HB5.out hb); have HZ6 := Lib.hid (HZ5.out.below hb); have HA6 := Lib.hid (HA5.out.below hb); have Hv6 := Lib.hid (Hv5.out.below hb); have Ho6 := Lib.hid ho6.reads; clear hb ho6)
            | (go_at_call 66; refine (equal_no _ _ (encL (decR b)) b _ Ho6.out Hv6.out Heq.out).mono ?_; rintro e w' ⟨rfl, rfl⟩)
            | (refine go_value (o := ⟨some 67, _, _, _, _, _⟩) (by rfl) (ex_build b66_none rfl rfl) ?_)
            | (refine go_skip (o := ⟨none, .store 66 _ _, _, _, _, _⟩) (by rfl) (ex_store (HZ6.out.store66 zero_n (s := Rec.zero) zero_n) rfl rfl rfl) ?_))
          refine bodyPost_ret_by (results_cell_tmp (p := 2) (q := 3) (ty := 66) (by kernel_rfl) _ _ w.heap.size (Rec.zero).cells (.int .i64 60) ((HZ6.out.set (s := Rec.zero)).load66 zero_n) rfl rfl) rfl ⟨by rw [HE.out, HV.out], Below.setRow' HB6.out (Nat.le_refl _) _⟩
      · have Hchk : Hid (chkE (decR b) = 60) := Lib.hid (by rw [chkE, if_neg hok])
        have hd : ¬ decOk b = true := by simp [decOk, hok]
        have HE : Hid (decE b = 60) := Lib.hid (by rw [decE, if_pos hl, if_neg hd])
        have HV : Hid (decV b = Rec.zero) := Lib.hid (by rw [decV, if_neg hd])
        clear hd hok
        go_wp2_with (first
          | (refine go_value (o := ⟨some 57, _, _, _, _, _⟩) (by rfl) (ex_load (HA4.out.load66 hdn) rfl rfl) ?_)
          | (go_at_call 38; refine (chk_any (decR b) _ hdo).mono ?_; rw [Hchk.out]; rintro e w5 ⟨rfl, hb⟩; have HB5 := Lib.hid (below_then HB4.out hb); have HZ5 := Lib.hid (HZ4.out.below hb); have HA5 := Lib.hid (HA4.out.below hb); have Hv5 := Lib.hid (Hv4.out.below hb); clear hb)
          | (refine go_value (o := ⟨some 67, _, _, _, _, _⟩) (by rfl) (ex_build b66_none rfl rfl) ?_)
          | (refine go_skip (o := ⟨none, .store 66 _ _, _, _, _, _⟩) (by rfl) (ex_store (HZ5.out.store66 zero_n (s := Rec.zero) zero_n) rfl rfl rfl) ?_))
        refine bodyPost_ret_by (results_cell_tmp (p := 2) (q := 3) (ty := 66) (by kernel_rfl) _ _ w.heap.size (Rec.zero).cells (.int .i64 60) ((HZ5.out.set (s := Rec.zero)).load66 zero_n) rfl rfl) rfl ⟨by rw [HE.out, HV.out], Below.setRow' HB5.out (Nat.le_refl _) _⟩
  
    · have hk2b : (k0 == 2) = false := by simpa using hk2
      have HD : Rec.mk k0 p0 0 ((b.take 48).drop 16) 0 = decR b := by simp [decR, Hk0.out, Hp0.out, hk1, hk2]
      clear hk1 hk2
      have HA4 : Hid (At 66 w3 g (decR b)) := Lib.hid (by have h9 := HA3.out; rw [HD] at h9; exact h9)
      have hb4 := Hb3.out
      have HB4 := Lib.hid (below_then HB1d.out hb4)
      have HZ4 := Lib.hid (HZ1d.out.below hb4)
      have Hv4 := Lib.hid (Hv1d.out.below hb4)
      clear hb4
      clear HB1d HZ1d Hv1d Hb3 HA3 N3 HD
      by_cases hok : okRec (decR b) = true
      · have Hm := Lib.hid (okRec_may hdo hok)
        have Hchk : Hid (chkE (decR b) = 0) := Lib.hid (by rw [chkE, if_pos hok])
        by_cases heq : encL (decR b) = b
        · have hd : decOk b = true := by simp [decOk, hl, hok, heq]
          have HE : Hid (decE b = 0) := Lib.hid (by rw [decE, if_pos hl, if_pos hd])
          have HV : Hid (decV b = decR b) := Lib.hid (by rw [decV, if_pos hd])
          have Heq := Lib.hid heq
          clear hd heq hok
          go_wp2_with (first
            | (refine go_value (o := ⟨some 57, _, _, _, _, _⟩) (by rfl) (ex_load (HA4.out.load66 hdn) rfl rfl) ?_)
            | (go_at_call 38; refine (chk_any (decR b) _ hdo).mono ?_; rw [Hchk.out]; rintro e w5 ⟨rfl, hb⟩; have HB5 := Lib.hid (below_then HB4.out hb); have HZ5 := Lib.hid (HZ4.out.below hb); have HA5 := Lib.hid (HA4.out.below hb); have Hv5 := Lib.hid (Hv4.out.below hb); clear hb)
            | (refine go_value (o := ⟨some 61, _, _, _, _, _⟩) (by rfl) (ex_load (HA5.out.load66 hdn) rfl rfl) ?_)
            | (go_at_call 67; refine (laid_any (decR b) _ hdo Hm.out (Ht.out.below HB5.out)).mono ?_; rintro e w6 ⟨v6, rfl, ho6, hb⟩; have HB6 := Lib.hid (below_then HB5.out hb); have HZ6 := Lib.hid (HZ5.out.below hb); have HA6 := Lib.hid (HA5.out.below hb); have Hv6 := Lib.hid (Hv5.out.below hb); have Ho6 := Lib.hid ho6.reads; clear hb ho6)
            | (go_at_call 66; refine (equal_yes _ _ (encL (decR b)) b _ Ho6.out Hv6.out Heq.out).mono ?_; rintro e w' ⟨rfl, rfl⟩)
            | (refine go_value (o := ⟨some 68, _, _, _, _, _⟩) (by rfl) (ex_load (HA6.out.load66 hdn) rfl rfl) ?_)
            | (refine go_skip (o := ⟨none, .store 66 _ _, _, _, _, _⟩) (by rfl) (ex_store (HZ6.out.store66 zero_n (s := decR b) hdn) rfl rfl rfl) ?_))
          refine bodyPost_ret_by (results_cell_tmp (p := 2) (q := 3) (ty := 66) (by kernel_rfl) _ _ w.heap.size (decR b).cells (.int .i64 0) ((HZ6.out.set (s := decR b)).load66 hdn) rfl rfl) rfl ⟨by rw [HE.out, HV.out], Below.setRow' HB6.out (Nat.le_refl _) _⟩
        · have hd : ¬ decOk b = true := by simp [decOk, heq]
          have HE : Hid (decE b = 60) := Lib.hid (by rw [decE, if_pos hl, if_neg hd])
          have HV : Hid (decV b = Rec.zero) := Lib.hid (by rw [decV, if_neg hd])
          have Heq := Lib.hid heq
          clear hd heq hok
          go_wp2_with (first
            | (refine go_value (o := ⟨some 57, _, _, _, _, _⟩) (by rfl) (ex_load (HA4.out.load66 hdn) rfl rfl) ?_)
            | (go_at_call 38; refine (chk_any (decR b) _ hdo).mono ?_; rw [Hchk.out]; rintro e w5 ⟨rfl, hb⟩; have HB5 := Lib.hid (below_then HB4.out hb); have HZ5 := Lib.hid (HZ4.out.below hb); have HA5 := Lib.hid (HA4.out.below hb); have Hv5 := Lib.hid (Hv4.out.below hb); clear hb)
            | (refine go_value (o := ⟨some 61, _, _, _, _, _⟩) (by rfl) (ex_load (HA5.out.load66 hdn) rfl rfl) ?_)
            | (go_at_call 67; refine (laid_any (decR b) _ hdo Hm.out (Ht.out.below HB5.out)).mono ?_; rintro e w6 ⟨v6, rfl, ho6, hb⟩; have HB6 := Lib.hid (below_then HB5.out hb); have HZ6 := Lib.hid (HZ5.out.below hb); have HA6 := Lib.hid (HA5.out.below hb); have Hv6 := Lib.hid (Hv5.out.below hb); have Ho6 := Lib.hid ho6.reads; clear hb ho6)
            | (go_at_call 66; refine (equal_no _ _ (encL (decR b)) b _ Ho6.out Hv6.out Heq.out).mono ?_; rintro e w' ⟨rfl, rfl⟩)
            | (refine go_value (o := ⟨some 67, _, _, _, _, _⟩) (by rfl) (ex_build b66_none rfl rfl) ?_)
            | (refine go_skip (o := ⟨none, .store 66 _ _, _, _, _, _⟩) (by rfl) (ex_store (HZ6.out.store66 zero_n (s := Rec.zero) zero_n) rfl rfl rfl) ?_))
          refine bodyPost_ret_by (results_cell_tmp (p := 2) (q := 3) (ty := 66) (by kernel_rfl) _ _ w.heap.size (Rec.zero).cells (.int .i64 60) ((HZ6.out.set (s := Rec.zero)).load66 zero_n) rfl rfl) rfl ⟨by rw [HE.out, HV.out], Below.setRow' HB6.out (Nat.le_refl _) _⟩
      · have Hchk : Hid (chkE (decR b) = 60) := Lib.hid (by rw [chkE, if_neg hok])
        have hd : ¬ decOk b = true := by simp [decOk, hok]
        have HE : Hid (decE b = 60) := Lib.hid (by rw [decE, if_pos hl, if_neg hd])
        have HV : Hid (decV b = Rec.zero) := Lib.hid (by rw [decV, if_neg hd])
        clear hd hok
        go_wp2_with (first
          | (refine go_value (o := ⟨some 57, _, _, _, _, _⟩) (by rfl) (ex_load (HA4.out.load66 hdn) rfl rfl) ?_)
          | (go_at_call 38; refine (chk_any (decR b) _ hdo).mono ?_; rw [Hchk.out]; rintro e w5 ⟨rfl, hb⟩; have HB5 := Lib.hid (below_then HB4.out hb); have HZ5 := Lib.hid (HZ4.out.below hb); have HA5 := Lib.hid (HA4.out.below hb); have Hv5 := Lib.hid (Hv4.out.below hb); clear hb)
          | (refine go_value (o := ⟨some 67, _, _, _, _, _⟩) (by rfl) (ex_build b66_none rfl rfl) ?_)
          | (refine go_skip (o := ⟨none, .store 66 _ _, _, _, _, _⟩) (by rfl) (ex_store (HZ5.out.store66 zero_n (s := Rec.zero) zero_n) rfl rfl rfl) ?_))
        refine bodyPost_ret_by (results_cell_tmp (p := 2) (q := 3) (ty := 66) (by kernel_rfl) _ _ w.heap.size (Rec.zero).cells (.int .i64 60) ((HZ5.out.set (s := Rec.zero)).load66 zero_n) rfl rfl) rfl ⟨by rw [HE.out, HV.out], Below.setRow' HB5.out (Nat.le_refl _) _⟩
  
end Go.Proofs.YtblfmofhfbbmdaaDoor
