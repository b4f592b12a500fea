/- A list of rooms: slices with marked room behind them, each a row of its own; wicketlaw02.cut. -/
import Derived.Test.YtblfmofhfbbmdaaDoorRoom
import Derived.Test.YtblfmofhfbbmdaaDoorBox
import Derived.Test.YtblfmofhfbbmdaaDoorApart1
import Derived.Test.YtblfmofhfbbmdaaDoorOct1
import Derived.Test.YtblfmofhfbbmdaaDoorWTab
import Derived.Test.YtblfmofhfbbmdaaDoorWLast
import Derived.BigQuiet
import Derived.Deep.RegionLaw
set_option linter.unusedVariables false
set_option linter.unusedSimpArgs false
namespace Go.Proofs.YtblfmofhfbbmdaaDoor
open Go.RowKit Go.Proofs.YtblfmofhfbbmdaaDoorW.PrintWords Go.Proofs.YtblfmofhfbbmdaaDoorW.PrintLast

/-- A room: its block, its capacity, its bytes. -/
abbrev Rm := Nat × Nat × List Int
def Rm.val (t : Rm) : Value := .slice (some ⟨t.1, 0, none⟩) t.2.2.length t.2.1
structure Ins (T : TypeId) (base : Nat) (w : World) (bx : Value) (its : List Rm) : Prop where
  box : w.ownsRow base T 1 bx its.length (its.map Rm.val)
  row : ∀ (j : Nat) (t : Rm), its[j]? = some t → OB w base (.slice (some ⟨t.1, 0, none⟩) (t.2.2.length + 3) t.2.1) (t.2.2 ++ [77, 78, 79]) ∧ t.2.2.length + 3 ≤ t.2.1
  away : ∀ (j j' : Nat) (t t' : Rm), j ≠ j' → its[j]? = some t → its[j']? = some t' → t.1 ≠ t'.1
theorem Ins.nil (T : TypeId) (base : Nat) (w : World) : Ins T base w (.slice none 0 0) [] :=
  ⟨World.ownsRow_nil w base T 1, fun j t h => by simp at h, fun j j' t t' _ h => by simp at h⟩
theorem Ins.below {T : TypeId} {base : Nat} {w w' : World} {bx : Value} {its : List Rm} (h : Ins T base w bx its) (hb : Below w.heap.size w w') : Ins T base w' bx its :=
  ⟨World.ownsRow.kept h.box (grown_of_below hb none) (by cases bx.ownBlock <;> simp), fun j t ht => ⟨(h.row j t ht).1.below hb, (h.row j t ht).2⟩, h.away⟩
/-- One more room. -/
theorem Ins.add {T : TypeId} {base : Nat} {w w1 w2 : World} {bx bx' : Value} {its : List Rm} {t : Rm} (hne : (5 : TypeId) ≠ T) (h : Ins T base w bx its) (hb : Below w.heap.size w w1) (hbase : base ≤ w.heap.size)
    (ho : OB w1 w.heap.size (.slice (some ⟨t.1, 0, none⟩) (t.2.2.length + 3) t.2.1) (t.2.2 ++ [77, 78, 79])) (hc : t.2.2.length + 3 ≤ t.2.1)
    (hp : w2.ownsRow base T 1 bx' (its.length + 1) (its.map Rm.val ++ [Rm.val t])) (hg : w1.grownBy w2 bx.ownBlock) : Ins T base w2 bx' (its ++ [t]) := by
  have h1 := h.below hb
  have keep : ∀ v xs, OB w1 base v xs → OB w2 base v xs := fun v xs hv => hv.kept hg (own_unlike hv.1 h1.box hne)
  have hget : ∀ (j : Nat) (t' : Rm), (its ++ [t])[j]? = some t' → (j < its.length ∧ its[j]? = some t') ∨ (j = its.length ∧ t' = t) := fun j t' ht => by
    by_cases hj : j < its.length
    · rw [List.getElem?_append_left hj] at ht; exact Or.inl ⟨hj, ht⟩
    · by_cases he : j = its.length
      · subst he; simp at ht; exact Or.inr ⟨rfl, ht.symm⟩
      · rw [List.getElem?_eq_none (by simp; omega)] at ht; cases ht
  have hlt : ∀ (j : Nat) (t' : Rm), its[j]? = some t' → t'.1 < w.heap.size := fun j t' ht => ((h.row j t' ht).1.blk t'.1 rfl).2
  have hge : w.heap.size ≤ t.1 := (ho.blk t.1 rfl).1
  refine ⟨by rw [List.length_append, List.map_append]; exact hp, fun j t' ht => ?_, fun j j' t' t'' hjj ht ht' => ?_⟩
  · rcases hget j t' ht with ⟨_, h2⟩ | ⟨_, rfl⟩
    · exact ⟨keep _ _ (h1.row j t' h2).1, (h.row j t' h2).2⟩
    · exact ⟨keep _ _ (ho.lower hbase), hc⟩
  · rcases hget j t' ht with ⟨_, h2⟩ | ⟨e1, rfl⟩ <;> rcases hget j' t'' ht' with ⟨_, h3⟩ | ⟨e2, rfl⟩
    · exact h.away j j' t' t'' hjj h2 h3
    · have := hlt j t' h2; omega
    · have := hlt j' t'' h3; omega
    · omega
/-- The rooms without what is behind them. -/
structure Fronts (T : TypeId) (base : Nat) (w : World) (bx : Value) (its : List Rm) : Prop where
  box : w.ownsRow base T 1 bx its.length (its.map Rm.val)
  row : ∀ (j : Nat) (t : Rm), its[j]? = some t → OB w base (Rm.val t) t.2.2
  away : ∀ (j j' : Nat) (t t' : Rm), j ≠ j' → its[j]? = some t → its[j']? = some t' → t.1 ≠ t'.1
theorem Ins.fronts {T : TypeId} {base : Nat} {w : World} {bx : Value} {its : List Rm} (h : Ins T base w bx its) : Fronts T base w bx its :=
  ⟨h.box, fun j t ht => (h.row j t ht).1.front rfl, h.away⟩
theorem Fronts.below {T : TypeId} {base : Nat} {w w' : World} {bx : Value} {its : List Rm} (h : Fronts T base w bx its) (hb : Below w.heap.size w w') : Fronts T base w' bx its :=
  ⟨World.ownsRow.kept h.box (grown_of_below hb none) (by cases bx.ownBlock <;> simp), fun j t ht => (h.row j t ht).below hb, h.away⟩
/-- Join reads them. -/
theorem Fronts.reads {T : TypeId} {base : Nat} {w : World} {bx : Value} {its : List Rm} (h : Fronts T base w bx its) : RBs w bx (its.map fun t => t.2.2) := by
  rcases h.box.2 with ⟨rfl, h0⟩ | ⟨g, cap, cur, rfl, hg, hh, hn, hm, hs, ht⟩
  · have : its = [] := List.eq_nil_of_length_eq_zero h0
    subst this
    exact RBs.nil w
  · refine ⟨some ⟨g, 0, none⟩, cap, by simp, by simpa using hn, by simp only [maxLen] at hm; simp; omega, fun hp => ⟨_, rfl, fun j hj => ?_⟩⟩
    have hj' : j < its.length := by simpa using hj
    have hi := List.getElem?_eq_getElem hj'
    refine ⟨Rm.val its[j], ?_, ?_⟩
    · have := World.ownsRow.cells h.box (g := g) rfl j (Rm.val its[j]) (by rw [List.getElem?_map, hi]; rfl)
      exact this
    · have h2 := (h.row j _ hi).reads
      rw [List.getElem?_map, hi]
      exact h2
/-- A byte of a room is written. -/
theorem Ins.set {T : TypeId} {base : Nat} {w : World} {bx : Value} {its : List Rm} (hne : (5 : TypeId) ≠ T) (h : Ins T base w bx its) {i g c : Nat} {L : List Int} (hi : its[i]? = some (g, c, L)) (k : Nat) (hk : k < L.length) (y : Int) (hy : 0 ≤ y ∧ y < 256) :
    Ins T base (w.setCell ⟨g, k, none⟩ (.int .u8 y)) bx (its.set i (g, c, L.set k y)) := by
  have hil : i < its.length := (List.getElem?_eq_some_iff.1 hi).1
  have hget : ∀ (j : Nat) (t' : Rm), (its.set i (g, c, L.set k y))[j]? = some t' → (j = i ∧ t' = (g, c, L.set k y)) ∨ (j ≠ i ∧ its[j]? = some t') := fun j t' ht => by
    rw [List.getElem?_set] at ht
    by_cases hij : i = j
    · subst hij; rw [if_pos rfl, if_pos hil] at ht; exact Or.inl ⟨rfl, (Option.some.inj ht).symm⟩
    · rw [if_neg hij] at ht; exact Or.inr ⟨fun e => hij e.symm, ht⟩
  have hmap : (its.set i (g, c, L.set k y)).map Rm.val = its.map Rm.val := by
    rw [List.map_set]
    apply List.ext_getElem?
    intro j
    rw [List.getElem?_set]
    by_cases hij : i = j
    · subst hij
      rw [if_pos rfl, if_pos (by simpa using hil), List.getElem?_map, hi]
      simp [Rm.val]
    · rw [if_neg hij]
  have hbx : bx.ownBlock ≠ some g := by
    rcases own_unlike h.box (h.row i _ hi).1.1 (Ne.symm hne) with h1 | h1
    · rw [h1]; simp
    · exact h1
  refine ⟨by rw [hmap, List.length_set]; exact ownsRow_setCell_other h.box hbx _, fun j t' ht => ?_, fun j j' t' t'' hjj ht ht' => ?_⟩
  · rcases hget j t' ht with ⟨_, rfl⟩ | ⟨hji, h2⟩
    · have h9 := (h.row i _ hi).1.set k (by simp; omega) y hy
      rw [List.set_append_left _ _ hk] at h9
      simp only [List.length_set]
      exact ⟨h9, (h.row i _ hi).2⟩
    · exact ⟨(h.row j t' h2).1.set_other (fun e => h.away j i t' _ hji h2 hi (by simpa [Value.ownBlock] using e)) _, (h.row j t' h2).2⟩
  · have hf : ∀ (j : Nat) (t' : Rm), (its.set i (g, c, L.set k y))[j]? = some t' → ∃ t2, its[j]? = some t2 ∧ t2.1 = t'.1 := fun j t' ht => by
      rcases hget j t' ht with ⟨rfl, rfl⟩ | ⟨_, h2⟩
      · exact ⟨_, hi, rfl⟩
      · exact ⟨t', h2, rfl⟩
    obtain ⟨a1, h2, e1⟩ := hf j t' ht
    obtain ⟨a2, h3, e2⟩ := hf j' t'' ht'
    rw [← e1, ← e2]
    exact h.away j j' a1 a2 hjj h2 h3
/-- A row of bytes elsewhere is written or grown. -/
theorem Ins.kept {T : TypeId} {base : Nat} {w w' : World} {bx v : Value} {its : List Rm} {xs : List Int} (hne : (5 : TypeId) ≠ T) (h : Ins T base w bx its) (hv : OB w base v xs) (haw : ∀ t ∈ its, v.ownBlock ≠ some t.1) (hg : w.grownBy w' v.ownBlock) : Ins T base w' bx its :=
  ⟨World.ownsRow.kept h.box hg (own_unlike h.box hv.1 (Ne.symm hne)), fun j t ht => ⟨(h.row j t ht).1.kept hg (Or.inr (fun e => haw t (List.mem_of_getElem? ht) e.symm)), (h.row j t ht).2⟩, h.away⟩
theorem Ins.drew {T : TypeId} {base : Nat} {w : World} {bx : Value} {its : List Rm} (h : Ins T base w bx its) : Ins T base w.drew bx its := h.below (below_drew (Below.refl _ _))

/-- Slices of bytes that somebody else owns, put into a list of one's own. -/
theorem RBs.own {w : World} {base : Nat} {v : Value} {vs : List Value} {xss : List (List Int)} (h : w.ownsRow base 25 1 v vs.length vs) (hl : vs.length = xss.length) (hr : ∀ (j : Nat) (u : Value), vs[j]? = some u → RBy w u (xss[j]?.getD [])) : RBs w v xss := by
  rcases h.2 with ⟨rfl, h0⟩ | ⟨g, cap, cur, rfl, hg, hh, hn, hm, hs, ht⟩
  · have : xss = [] := List.eq_nil_of_length_eq_zero (by omega)
    subst this
    exact RBs.nil w
  · rw [hl] at hn ⊢
    refine ⟨some ⟨g, 0, none⟩, cap, rfl, hn, by simp only [maxLen] at hm; omega, fun hp => ⟨_, rfl, fun j hj => ?_⟩⟩
    have hi := List.getElem?_eq_getElem (show j < vs.length by omega)
    exact ⟨vs[j], World.ownsRow.cells h (g := g) (by rw [hl]; rfl) j _ hi, hr j _ hi⟩
theorem info25 : (Tryd.prog.info? 25).map (fun i => (i.zero, i.size, i.bytes)) = some (some (.slice none 0 0), 1, 24) := by kernel_rfl
def cutL (xss : List (List Int)) : List (List Int) := (xss.take 40).map (List.take 3000)

def T24_5 : Bool × List (List Nat × List Nat) := (true, [([], []), ([], []), ([], []), ([1, 2], [1, 2]), ([3], [3]), ([], []), ([], []), ([5, 6], [5, 6]), ([7], [7]), ([8], [8]), ([9], [9]), ([4, 10], [4, 10]), ([11], [11]), ([0, 12], [0, 12]), ([13, 13, 0, 1, 2, 3, 4, 5, 6, 7, 8, 9, 10, 11, 12, 13], [0, 13])])
def B24_5 : List Nat := [0, 0, 0, 6, 14, 0, 0, 96, 224, 480, 992, 2046, 4094, 8191, 16383]
theorem tab24_5 : rtab .any (opsOf Tryd.f24 5) = T24_5 := by kernel_rfl
theorem bits24_5 : waitsOk T24_5.2 B24_5 = true := by kernel_rfl
def S24 (a : Addr) (u : Value) (w : World) : Prop := w.cell? a = some u
theorem run_box30 (w : World) (A : Option Addr) (n c : Nat) : (Instr.buildSlice 30 1 #[(0, .slice A n c)]).run Tryd.prog w = .ok (.slice (some ⟨w.heap.size, 0, none⟩) 1 1) (w.alloc (.cells #[.slice A n c] 25)) := by kernel_rfl
section
variable {P : Program} {a : Act} {w w1 : World} {v : Value} {o : Oper}
theorem ex_buildSlice {t : TypeId} {len : Nat} {parts : Array (Nat × Operand)} {vals : Array (Nat × Value)} (h : (Instr.buildSlice t len vals).run P w = .ok v w1) (ho : o.op = .buildSlice t len parts) (hv : (parts.map fun (i, x) => (i, a.eval x)) = vals) : (execOp a.eval o).run P w = .ok (.value v) w1 := by
  subst hv
  unfold execOp
  simp only [ho, Sem.run_bind, h, Result.andThen_ok, Sem.run_pure]
theorem ex_app {s x : Operand} {t : TypeId} {vs vx v' : Value} (ho : o.op = .call { callee := .builtin .append, args := #[s, x], argTypes := #[t, t] }) (hs : a.eval s = vs) (hx : a.eval x = vx)
    (hrun : (Builtin.append_ #[t, t] o.type #[vs, vx]).run P w = .ok v' w1) : (execOp a.eval o).run P w = .ok (.value v') w1 := by
  simp only [execOp, ho, resolve, invoke, builtin, List.map_toArray, List.map_cons, List.map_nil, Sem.run_bind, Sem.run_pure, Result.andThen_ok, hs, hx, hrun]
theorem run_push0 (t ty e : TypeId) (z : Value) (bts : Nat)
    (ht : P.underlying t = some (.slice e)) (hinfo : (P.info? e).map (fun i => (i.zero, i.size, i.bytes)) = some (some z, 1, bts)) (hzs : z.cells.size = 1) (hb0 : 0 < bts)
    (base : Nat) (v : Value) (n : Nat) (xs : List Value) (y : Value) (hy : y.oneCell' = true) (hown : w.ownsRow base e 1 v n xs) (ad : Addr) (hnews : ∀ j u, [y][j]? = some u → w.cell? (ad.add j) = some u)
    (hlen : (n + 1) * bts ≤ 140737488355328) (hbase : base ≤ w.heap.size) :
    ∃ v' w', (Builtin.append_ #[t, t] ty #[v, .slice (some ad) 1 1]).run P w = .ok v' w' ∧ w'.ownsRow base e 1 v' (n + 1) (xs ++ [y]) ∧ w.grownBy w' v.ownBlock := by
  obtain ⟨i0, hi, hzz⟩ := Option.map_eq_some_iff.1 hinfo
  simp only [Prod.mk.injEq] at hzz
  obtain ⟨hz0, hz1, hz2⟩ := hzz
  have h2 : n + 1 ≤ 140737488355328 := Nat.le_trans (Nat.le_mul_of_pos_right _ hb0) hlen
  obtain ⟨v', w', hrun, ho', hg, _, hat⟩ := run_append_own_at (P := P) w base t ty e i0 z 1 bts ht hi hz0 hz1 hz2 hzs (by decide) v n xs hown ad 1 1 [y] (by simp) hnews (fun u hu => by simp at hu; subst hu; exact hy) (by simp only [maxLen]; omega) hlen hbase
  exact ⟨v', w', hrun, ho', hg⟩
end
set_option maxRecDepth 100000 in
set_option maxHeartbeats 4000000 in
theorem cut_any (v : Value) (xss : List (List Int)) (w : World) (hv : RBs w v xss) :
    Calls Tryd.prog 24 #[v] w fun e w' => ∃ v' vs, e = .returned v' ∧ w'.ownsRow w.heap.size 25 1 v' (min 40 xss.length) vs ∧ (∀ (j : Nat) (u : Value), vs[j]? = some u → RBy w u ((xss[j]?.getD []).take 3000)) ∧ Below w.heap.size w w' := by
  obtain ⟨A, c, rfl, hc, hn, hcell⟩ := hv
  go_enter Tryd.func24, Tryd.ntmps24
  go_wp2
  go_loopw [3, 4] (fun s3 s4 wr => ∃ (i : Nat) (vs : List Value), s4 = .int .i64 (i : Int) ∧ i ≤ xss.length ∧ i ≤ 40 ∧ Hid (wr.ownsRow w.heap.size 25 1 s3 i vs ∧ ∀ (j : Nat) (u : Value), vs[j]? = some u → RBy w u ((xss[j]?.getD []).take 3000)) ∧ Hid (Below w.heap.size w wr)) (fun _ s4 _ => min 40 xss.length - (intOf s4).toNat)
  case atStart => exact ⟨0, [], rfl, Nat.zero_le _, by omega, ⟨World.ownsRow_nil w _ _ _, fun j u h => by simp at h⟩, Below.refl _ _⟩
  case round =>
    obtain ⟨i, vs, rfl, hi, h40, H, Hb⟩ := hrel
    by_cases hlt : i < xss.length
    · by_cases hlt2 : i < 40
      · obtain ⟨ad, rfl, hcs⟩ := hcell (by omega)
        obtain ⟨u, hu0, hr⟩ := hcs i hlt
        have hu := keep_cell Hb.out (Nat.le_refl _) hu0
        obtain ⟨ps, hps⟩ : ∃ ps, xss[i]?.getD [] = ps := ⟨_, rfl⟩
        rw [hps] at hr
        obtain ⟨Au, cu, rfl, hcu⟩ := hr.form
        have Hr := Lib.hid hr
        have Hps := Lib.hid hps
        have Hsz := Lib.hid (show w.heap.size ≤ wr.drew.heap.size from Hb.out.size)
        have Hbox := Lib.hid (show wr.drew.ownsRow w.heap.size 25 1 u3 i vs from World.ownsRow.kept H.out.1 (grown_of_below (below_drew (Below.refl _ _)) none) (by cases u3.ownBlock <;> simp))
        have Hl24 := Lib.hid (show (i + 1) * 24 ≤ 140737488355328 by omega)
        clear hr hps hcs hcell
        by_cases hp : (3000 : Int) < (ps.length : Int)
        · have hcu3 : (3000 : Int) ≤ (cu : Int) := by omega
          have Hfr := Lib.hid (show RBy w (.slice Au 3000 cu) (ps.take 3000) from Hr.out.first (by omega))
          clear Hr
          go_wp2
          have hS0 : S24 (ad.add i) (.slice Au ps.length cu) wr.drew := hu
          have Hb2 := Lib.hid (below_drew Hb.out)
          refine start_ (n := 15) (S := S24 (ad.add i) (.slice Au ps.length cu)) (ds := []) #[false, false, false, false, false, false, false, false, false, false, false, false, false, false, false] (by kernel_rfl) rfl rfl (hS0) (fun hHeld => ?_); refine with_tabW tab24_5 bits24_5 (fun HT_ HW_ => ?_)
          generalize wr.drew = w2 at *
          refine pure_ (i := 0) (N := (some 15)) (v := ?_) (a' := ?_) #[true, false, false, false, false, false, false, false, false, false, false, false, false, false, false] rfl rfl (any_of HT_.out (by kernel_rfl)) (fun _ _ _ h => h) (Or.inl ⟨by rfl, ?_⟩) ?_ ?_
          rotate_left
          · intro w'
            go_simp
            with_reducible rfl
          rotate_left
          · simp only [Act.put, List.setIfInBounds_toArray, List.set_cons_zero, List.set_cons_succ]
            rfl
          refine pure_ (i := 1) (N := (some 16)) (v := ?_) (a' := ?_) #[true, true, false, false, false, false, false, false, false, false, false, false, false, false, false] rfl rfl (any_of HT_.out (by kernel_rfl)) (fun _ _ _ h => h) (Or.inl ⟨by rfl, ?_⟩) ?_ ?_
          rotate_left
          · intro w'
            go_simp
            with_reducible rfl
          rotate_left
          · simp only [Act.put, List.setIfInBounds_toArray, List.set_cons_zero, List.set_cons_succ]
            rfl
          refine pure_ (i := 2) (N := (some 17)) (v := ?_) (a' := ?_) #[true, true, true, false, false, false, false, false, false, false, false, false, false, false, false] rfl rfl (any_of HT_.out (by kernel_rfl)) (fun _ _ _ h => h) (Or.inl ⟨by rfl, ?_⟩) ?_ ?_
          rotate_left
          · intro w'
            go_simp
            with_reducible rfl
          rotate_left
          · simp only [Act.put, List.setIfInBounds_toArray, List.set_cons_zero, List.set_cons_succ]
            rfl
          refine pure_ (i := 3) (N := (some 18)) (v := ?_) (a' := ?_) #[true, true, true, true, false, false, false, false, false, false, false, false, false, false, false] rfl rfl (any_of HT_.out (by kernel_rfl)) (fun _ _ _ h => h) (Or.inl ⟨by rfl, ?_⟩) ?_ ?_
          rotate_left
          · intro w'
            go_simp
            with_reducible rfl
          rotate_left
          · simp only [Act.put, List.setIfInBounds_toArray, List.set_cons_zero, List.set_cons_succ]
            rfl
          refine take_ (i := 4) (N := (some 19)) (v := ?_) (a' := ?_) #[true, true, true, true, true, false, false, false, false, false, false, false, false, false, false] rfl rfl (take_of HT_.out (by kernel_rfl)) (fun _ _ _ h => h) (Or.inl ⟨by rfl, ?_⟩) hHeld ?_ ?_
          rotate_left
          · intro w' hw'
            have k9 : w'.cell? (ad.add i) = some (.slice Au ps.length cu) := hw'
            go_simp
            with_reducible rfl
          rotate_left
          · simp only [Act.put, List.setIfInBounds_toArray, List.set_cons_zero, List.set_cons_succ]
            rfl
          refine pure_ (i := 5) (N := (some 20)) (v := ?_) (a' := ?_) #[true, true, true, true, true, true, false, false, false, false, false, false, false, false, false] rfl rfl (any_of HT_.out (by kernel_rfl)) (fun _ _ _ h => h) (Or.inl ⟨by rfl, ?_⟩) ?_ ?_
          rotate_left
          · intro w'
            go_simp
            with_reducible rfl
          rotate_left
          · simp only [Act.put, List.setIfInBounds_toArray, List.set_cons_zero, List.set_cons_succ]
            rfl
          refine pure_ (i := 6) (N := (some 21)) (v := ?_) (a' := ?_) #[true, true, true, true, true, true, true, false, false, false, false, false, false, false, false] rfl rfl (any_of HT_.out (by kernel_rfl)) (fun _ _ _ h => h) (Or.inl ⟨by rfl, ?_⟩) ?_ ?_
          rotate_left
          · intro w'
            go_simp
            with_reducible rfl
          rotate_left
          · simp only [Act.put, List.setIfInBounds_toArray, List.set_cons_zero, List.set_cons_succ]
            rfl
          refine pure_ (i := 7) (N := (some 22)) (v := ?_) (a' := ?_) #[true, true, true, true, true, true, true, true, false, false, false, false, false, false, false] rfl rfl (any_of HT_.out (by kernel_rfl)) (fun _ _ _ h => h) (Or.inl ⟨by rfl, ?_⟩) ?_ ?_
          rotate_left
          · intro w'
            go_simp
            with_reducible rfl
          rotate_left
          · simp only [Act.put, List.setIfInBounds_toArray, List.set_cons_zero, List.set_cons_succ]
            rfl
          refine take_ (i := 8) (N := (some 23)) (v := ?_) (a' := ?_) #[true, true, true, true, true, true, true, true, true, false, false, false, false, false, false] rfl rfl (take_of HT_.out (by kernel_rfl)) (fun _ _ _ h => h) (Or.inl ⟨by rfl, ?_⟩) hHeld ?_ ?_
          rotate_left
          · intro w' hw'
            have k9 : w'.cell? (ad.add i) = some (.slice Au ps.length cu) := hw'
            go_simp
            with_reducible rfl
          rotate_left
          · simp only [Act.put, List.setIfInBounds_toArray, List.set_cons_zero, List.set_cons_succ]
            rfl
          refine pure_ (i := 9) (N := (some 24)) (v := ?_) (a' := ?_) #[true, true, true, true, true, true, true, true, true, true, false, false, false, false, false] rfl rfl (any_of HT_.out (by kernel_rfl)) (fun _ _ _ h => h) (Or.inl ⟨by rfl, ?_⟩) ?_ ?_
          rotate_left
          · intro w'
            go_simp
            with_reducible rfl
          rotate_left
          · simp only [Act.put, List.setIfInBounds_toArray, List.set_cons_zero, List.set_cons_succ]
            rfl
          refine pure_ (i := 10) (N := (some 25)) (v := ?_) (a' := ?_) #[true, true, true, true, true, true, true, true, true, true, true, false, false, false, false] rfl rfl (any_of HT_.out (by kernel_rfl)) (fun _ _ _ h => h) (Or.inl ⟨by rfl, ?_⟩) ?_ ?_
          rotate_left
          · intro w'
            go_simp
            with_reducible rfl
          rotate_left
          · simp only [Act.put, List.setIfInBounds_toArray, List.set_cons_zero, List.set_cons_succ]
            rfl
          refine pure_ (i := 11) (N := (some 26)) (v := ?_) (a' := ?_) #[true, true, true, true, true, true, true, true, true, true, true, true, false, false, false] rfl rfl (any_of HT_.out (by kernel_rfl)) (fun _ _ _ h => h) (Or.inl ⟨by rfl, ?_⟩) ?_ ?_
          rotate_left
          · intro w'
            go_simp
            with_reducible rfl
          rotate_left
          · simp only [Act.put, List.setIfInBounds_toArray, List.set_cons_zero, List.set_cons_succ]
            rfl
          refine one_ (i := 12) (N := (some 27)) #[true, true, true, true, true, true, true, true, true, true, true, true, true, false, false] rfl rfl (one_of HT_.out (by kernel_rfl)) (by decide) (fun K hK => ?_)
          refine value_ (by rfl) rfl (ex_buildSlice (run_box30 _ _ _ _) rfl (by simp only [List.map_toArray, List.map_cons, List.map_nil, Act.eval]; rfl)) ?_
          refine hK.out _ _ (keep_cell (Hb2.out.alloc Hb2.out.size _) (Nat.le_refl _) hu0) (fun hHeld => ?_)
          clear hK K
          refine norm_ (a' := ?_) ?_ ?_
          rotate_left
          · show Act.put _ (some 27) _ = _
            simp only [Act.put, List.setIfInBounds_toArray, List.set_cons_zero, List.set_cons_succ]
            rfl
          refine one_ (i := 13) (N := (some 28)) #[true, true, true, true, true, true, true, true, true, true, true, true, true, true, false] rfl rfl (one_of HT_.out (by kernel_rfl)) (by decide) (fun K hK => ?_)
          obtain ⟨lv, w3, hrun, ho3, hg3⟩ := run_push0 (P := Tryd.prog) (w := w2.alloc (.cells #[.slice Au 3000 cu] 25)) 30 30 25 (.slice none 0 0) 24 Tryd.underlying30 info25 rfl (by decide) w.heap.size _ i vs (.slice Au 3000 cu) rfl (World.ownsRow.alloc Hbox.out _) ⟨w2.heap.size, 0, none⟩ (cell_one_new _ _ _) Hl24.out (by have := Hsz.out; simp; omega)
          have Hb3 := Lib.hid ((Hb2.out.alloc Hb2.out.size _).grown hg3 (by have := Hb2.out.size; simp; omega) (fun k hk => (World.ownsRow.lt Hbox.out k hk).1))
          have Ho3 := Lib.hid ho3
          clear ho3 hg3
          refine value_ (by rfl) rfl (ex_app rfl rfl rfl hrun) ?_
          refine hK.out _ _ (keep_cell Hb3.out (Nat.le_refl _) hu0) (fun hHeld => ?_)
          clear hK K
          refine norm_ (a' := ?_) ?_ ?_
          rotate_left
          · show Act.put _ (some 28) _ = _
            simp only [Act.put, List.setIfInBounds_toArray, List.set_cons_zero, List.set_cons_succ]
            rfl
          refine pure_ (i := 14) (N := (some 3)) (v := ?_) (a' := ?_) #[true, true, true, true, true, true, true, true, true, true, true, true, true, true, true] rfl rfl (any_of HT_.out (by kernel_rfl)) (fun _ _ _ h => h) (Or.inl ⟨by rfl, ?_⟩) ?_ ?_
          rotate_left
          · intro w'
            go_simp
            with_reducible rfl
          rotate_left
          · simp only [Act.put, List.setIfInBounds_toArray, List.set_cons_zero, List.set_cons_succ]
            rfl
          refine done_ (done_of HT_.out (by kernel_rfl)) ?_
          go_wp2
          go_roundw
          case rel =>
            refine ⟨i + 1, vs ++ [.slice Au 3000 cu], by go_num, by omega, by omega, ⟨Ho3.out, fun j u hu => ?_⟩, Hb3⟩
            have hvl : vs.length = i := by have := H.out.1.1; omega
            by_cases hj : j < vs.length
            · rw [List.getElem?_append_left hj] at hu
              exact H.out.2 j u hu
            · have hje : j = vs.length := by
                have := (List.getElem?_eq_some_iff.1 hu).1
                simp at this; omega
              subst hje
              simp at hu
              subst hu
              rw [hvl, Hps.out]
              exact Hfr.out
          case measure => simp [intOf]; omega
        · have hpe : (if (3000 : Int) < (ps.length : Int) then (3000 : Int) else (ps.length : Int)) = (ps.length : Int) := if_neg hp
          have Hfr := Lib.hid (show RBy w (.slice Au ps.length cu) (ps.take 3000) from by rw [List.take_of_length_le (by omega)]; exact Hr.out)
          clear Hr
          go_wp2
          have hS0 : S24 (ad.add i) (.slice Au ps.length cu) wr.drew := hu
          have Hb2 := Lib.hid (below_drew Hb.out)
          refine start_ (n := 15) (S := S24 (ad.add i) (.slice Au ps.length cu)) (ds := []) #[false, false, false, false, false, false, false, false, false, false, false, false, false, false, false] (by kernel_rfl) rfl rfl (hS0) (fun hHeld => ?_); refine with_tabW tab24_5 bits24_5 (fun HT_ HW_ => ?_)
          generalize wr.drew = w2 at *
          refine pure_ (i := 0) (N := (some 15)) (v := ?_) (a' := ?_) #[true, false, false, false, false, false, false, false, false, false, false, false, false, false, false] rfl rfl (any_of HT_.out (by kernel_rfl)) (fun _ _ _ h => h) (Or.inl ⟨by rfl, ?_⟩) ?_ ?_
          rotate_left
          · intro w'
            go_simp
            with_reducible rfl
          rotate_left
          · simp only [Act.put, List.setIfInBounds_toArray, List.set_cons_zero, List.set_cons_succ]
            rfl
          refine pure_ (i := 1) (N := (some 16)) (v := ?_) (a' := ?_) #[true, true, false, false, false, false, false, false, false, false, false, false, false, false, false] rfl rfl (any_of HT_.out (by kernel_rfl)) (fun _ _ _ h => h) (Or.inl ⟨by rfl, ?_⟩) ?_ ?_
          rotate_left
          · intro w'
            go_simp
            with_reducible rfl
          rotate_left
          · simp only [Act.put, List.setIfInBounds_toArray, List.set_cons_zero, List.set_cons_succ]
            rfl
          refine pure_ (i := 2) (N := (some 17)) (v := ?_) (a' := ?_) #[true, true, true, false, false, false, false, false, false, false, false, false, false, false, false] rfl rfl (any_of HT_.out (by kernel_rfl)) (fun _ _ _ h => h) (Or.inl ⟨by rfl, ?_⟩) ?_ ?_
          rotate_left
          · intro w'
            go_simp
            with_reducible rfl
          rotate_left
          · simp only [Act.put, List.setIfInBounds_toArray, List.set_cons_zero, List.set_cons_succ]
            rfl
          refine pure_ (i := 3) (N := (some 18)) (v := ?_) (a' := ?_) #[true, true, true, true, false, false, false, false, false, false, false, false, false, false, false] rfl rfl (any_of HT_.out (by kernel_rfl)) (fun _ _ _ h => h) (Or.inl ⟨by rfl, ?_⟩) ?_ ?_
          rotate_left
          · intro w'
            go_simp
            with_reducible rfl
          rotate_left
          · simp only [Act.put, List.setIfInBounds_toArray, List.set_cons_zero, List.set_cons_succ]
            rfl
          refine take_ (i := 4) (N := (some 19)) (v := ?_) (a' := ?_) #[true, true, true, true, true, false, false, false, false, false, false, false, false, false, false] rfl rfl (take_of HT_.out (by kernel_rfl)) (fun _ _ _ h => h) (Or.inl ⟨by rfl, ?_⟩) hHeld ?_ ?_
          rotate_left
          · intro w' hw'
            have k9 : w'.cell? (ad.add i) = some (.slice Au ps.length cu) := hw'
            go_simp
            with_reducible rfl
          rotate_left
          · simp only [Act.put, List.setIfInBounds_toArray, List.set_cons_zero, List.set_cons_succ]
            rfl
          refine pure_ (i := 5) (N := (some 20)) (v := ?_) (a' := ?_) #[true, true, true, true, true, true, false, false, false, false, false, false, false, false, false] rfl rfl (any_of HT_.out (by kernel_rfl)) (fun _ _ _ h => h) (Or.inl ⟨by rfl, ?_⟩) ?_ ?_
          rotate_left
          · intro w'
            go_simp
            with_reducible rfl
          rotate_left
          · simp only [Act.put, List.setIfInBounds_toArray, List.set_cons_zero, List.set_cons_succ]
            rfl
          refine pure_ (i := 6) (N := (some 21)) (v := ?_) (a' := ?_) #[true, true, true, true, true, true, true, false, false, false, false, false, false, false, false] rfl rfl (any_of HT_.out (by kernel_rfl)) (fun _ _ _ h => h) (Or.inl ⟨by rfl, ?_⟩) ?_ ?_
          rotate_left
          · intro w'
            go_simp
            with_reducible rfl
          rotate_left
          · simp only [Act.put, List.setIfInBounds_toArray, List.set_cons_zero, List.set_cons_succ]
            rfl
          refine pure_ (i := 7) (N := (some 22)) (v := ?_) (a' := ?_) #[true, true, true, true, true, true, true, true, false, false, false, false, false, false, false] rfl rfl (any_of HT_.out (by kernel_rfl)) (fun _ _ _ h => h) (Or.inl ⟨by rfl, ?_⟩) ?_ ?_
          rotate_left
          · intro w'
            go_simp
            with_reducible rfl
          rotate_left
          · simp only [Act.put, List.setIfInBounds_toArray, List.set_cons_zero, List.set_cons_succ]
            rfl
          refine take_ (i := 8) (N := (some 23)) (v := ?_) (a' := ?_) #[true, true, true, true, true, true, true, true, true, false, false, false, false, false, false] rfl rfl (take_of HT_.out (by kernel_rfl)) (fun _ _ _ h => h) (Or.inl ⟨by rfl, ?_⟩) hHeld ?_ ?_
          rotate_left
          · intro w' hw'
            have k9 : w'.cell? (ad.add i) = some (.slice Au ps.length cu) := hw'
            go_simp
            with_reducible rfl
          rotate_left
          · simp only [Act.put, List.setIfInBounds_toArray, List.set_cons_zero, List.set_cons_succ]
            rfl
          refine pure_ (i := 9) (N := (some 24)) (v := ?_) (a' := ?_) #[true, true, true, true, true, true, true, true, true, true, false, false, false, false, false] rfl rfl (any_of HT_.out (by kernel_rfl)) (fun _ _ _ h => h) (Or.inl ⟨by rfl, ?_⟩) ?_ ?_
          rotate_left
          · intro w'
            go_simp
            with_reducible rfl
          rotate_left
          · simp only [Act.put, List.setIfInBounds_toArray, List.set_cons_zero, List.set_cons_succ]
            rfl
          refine pure_ (i := 10) (N := (some 25)) (v := ?_) (a' := ?_) #[true, true, true, true, true, true, true, true, true, true, true, false, false, false, false] rfl rfl (any_of HT_.out (by kernel_rfl)) (fun _ _ _ h => h) (Or.inl ⟨by rfl, ?_⟩) ?_ ?_
          rotate_left
          · intro w'
            go_simp
            with_reducible rfl
          rotate_left
          · simp only [Act.put, List.setIfInBounds_toArray, List.set_cons_zero, List.set_cons_succ]
            rfl
          refine pure_ (i := 11) (N := (some 26)) (v := ?_) (a' := ?_) #[true, true, true, true, true, true, true, true, true, true, true, true, false, false, false] rfl rfl (any_of HT_.out (by kernel_rfl)) (fun _ _ _ h => h) (Or.inl ⟨by rfl, ?_⟩) ?_ ?_
          rotate_left
          · intro w'
            go_simp
            with_reducible rfl
          rotate_left
          · simp only [Act.put, List.setIfInBounds_toArray, List.set_cons_zero, List.set_cons_succ]
            rfl
          refine one_ (i := 12) (N := (some 27)) #[true, true, true, true, true, true, true, true, true, true, true, true, true, false, false] rfl rfl (one_of HT_.out (by kernel_rfl)) (by decide) (fun K hK => ?_)
          refine value_ (by rfl) rfl (ex_buildSlice (run_box30 _ _ _ _) rfl (by simp only [List.map_toArray, List.map_cons, List.map_nil, Act.eval]; rfl)) ?_
          refine hK.out _ _ (keep_cell (Hb2.out.alloc Hb2.out.size _) (Nat.le_refl _) hu0) (fun hHeld => ?_)
          clear hK K
          refine norm_ (a' := ?_) ?_ ?_
          rotate_left
          · show Act.put _ (some 27) _ = _
            simp only [Act.put, List.setIfInBounds_toArray, List.set_cons_zero, List.set_cons_succ]
            rfl
          refine one_ (i := 13) (N := (some 28)) #[true, true, true, true, true, true, true, true, true, true, true, true, true, true, false] rfl rfl (one_of HT_.out (by kernel_rfl)) (by decide) (fun K hK => ?_)
          obtain ⟨lv, w3, hrun, ho3, hg3⟩ := run_push0 (P := Tryd.prog) (w := w2.alloc (.cells #[.slice Au ps.length cu] 25)) 30 30 25 (.slice none 0 0) 24 Tryd.underlying30 info25 rfl (by decide) w.heap.size _ i vs (.slice Au ps.length cu) rfl (World.ownsRow.alloc Hbox.out _) ⟨w2.heap.size, 0, none⟩ (cell_one_new _ _ _) Hl24.out (by have := Hsz.out; simp; omega)
          have Hb3 := Lib.hid ((Hb2.out.alloc Hb2.out.size _).grown hg3 (by have := Hb2.out.size; simp; omega) (fun k hk => (World.ownsRow.lt Hbox.out k hk).1))
          have Ho3 := Lib.hid ho3
          clear ho3 hg3
          refine value_ (by rfl) rfl (ex_app rfl rfl rfl hrun) ?_
          refine hK.out _ _ (keep_cell Hb3.out (Nat.le_refl _) hu0) (fun hHeld => ?_)
          clear hK K
          refine norm_ (a' := ?_) ?_ ?_
          rotate_left
          · show Act.put _ (some 28) _ = _
            simp only [Act.put, List.setIfInBounds_toArray, List.set_cons_zero, List.set_cons_succ]
            rfl
          refine pure_ (i := 14) (N := (some 3)) (v := ?_) (a' := ?_) #[true, true, true, true, true, true, true, true, true, true, true, true, true, true, true] rfl rfl (any_of HT_.out (by kernel_rfl)) (fun _ _ _ h => h) (Or.inl ⟨by rfl, ?_⟩) ?_ ?_
          rotate_left
          · intro w'
            go_simp
            with_reducible rfl
          rotate_left
          · simp only [Act.put, List.setIfInBounds_toArray, List.set_cons_zero, List.set_cons_succ]
            rfl
          refine done_ (done_of HT_.out (by kernel_rfl)) ?_
          go_wp2
          go_roundw
          case rel =>
            refine ⟨i + 1, vs ++ [.slice Au ps.length cu], by go_num, by omega, by omega, ⟨Ho3.out, fun j u hu => ?_⟩, Hb3⟩
            have hvl : vs.length = i := by have := H.out.1.1; omega
            by_cases hj : j < vs.length
            · rw [List.getElem?_append_left hj] at hu
              exact H.out.2 j u hu
            · have hje : j = vs.length := by
                have := (List.getElem?_eq_some_iff.1 hu).1
                simp at this; omega
              subst hje
              simp at hu
              subst hu
              rw [hvl, Hps.out]
              exact Hfr.out
          case measure => simp [intOf]; omega
      · obtain rfl : i = 40 := by omega
        go_wp2
        go_ret
        exact ⟨_, vs, rfl, by rw [Nat.min_eq_left (by omega)]; exact H.out.1, H.out.2, Hb.out⟩
    · obtain rfl : i = xss.length := by omega
      go_wp2
      go_ret
      exact ⟨_, vs, rfl, by rw [Nat.min_eq_right (by omega)]; exact H.out.1, H.out.2, Hb.out⟩
end Go.Proofs.YtblfmofhfbbmdaaDoor
