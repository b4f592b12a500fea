/- Rows that hold one mark each; some share a block, and then their marks are alike; one of them is grown by its mark, and all still hold theirs. -/
import Derived.Test.YtblfmofhfbbmdaaDoorApart1
set_option linter.unusedVariables false
set_option linter.unusedSimpArgs false
namespace Go.Proofs.YtblfmofhfbbmdaaDoor
open Go.RowKit

/-- A row's value, how many, its mark. -/
structure Mk where
  v : Value
  n : Nat
  a : Int
abbrev Mk.xs (p : Mk) : List Int := List.replicate p.n p.a
structure Fam (base : Nat) (w : World) (R : List Mk) : Prop where
  own : ∀ p ∈ R, OI .u8 5 w base p.v p.xs
  like : ∀ p ∈ R, ∀ q ∈ R, ∀ b, p.v.ownBlock = some b → q.v.ownBlock = some b → p.a = q.a
theorem Fam.nil (base : Nat) (w : World) : Fam base w [] := ⟨fun p h => (by cases h), fun p h => (by cases h)⟩
theorem Fam.keep {base : Nat} {w w' : World} {R : List Mk} (h : Fam base w R) {row : Option Nat} (hg : w.grownBy w' row)
    (hrow : ∀ v xs, OI .u8 5 w base v xs → v.ownBlock = none ∨ v.ownBlock ≠ row) : Fam base w' R :=
  ⟨fun p hp => (h.own p hp).kept hg (hrow _ _ (h.own p hp)), h.like⟩
theorem Fam.below {base : Nat} {w w' : World} {R : List Mk} (h : Fam base w R) (hb : Below w.heap.size w w') : Fam base w' R :=
  ⟨fun p hp => (h.own p hp).below hb, h.like⟩
/-- How append has grown a row, to the cell: in its own block the cell at n was written; or the row is a new one. -/
def Grew2 (w w' : World) (e : TypeId) (v v' y : Value) : Prop :=
  (∃ g n cap cur, v = .slice (some ⟨g, 0, none⟩) n cap ∧ v' = .slice (some ⟨g, 0, none⟩) (n + 1) cap ∧ w.heap[g]? = some (.cells cur e (0, 0)) ∧ n < cur.size ∧
    w'.heap[g]? = some (.cells (cur.toList.take n ++ [y] ++ cur.toList.drop (n + 1)).toArray e (0, 0)) ∧ w.grownBy w' (some g)) ∨
  (w.grownBy w' none ∧ ∃ b, v'.ownBlock = some b ∧ w.heap.size ≤ b)
theorem Grew2.grew {w w' : World} {e : TypeId} {v v' y : Value} (h : Grew2 w w' e v v' y) : Grew w w' v v' := by
  rcases h with ⟨g, n, cap, cur, rfl, rfl, _, _, _, h3⟩ | h
  · exact Or.inl ⟨g, n, cap, rfl, rfl, h3⟩
  · exact Or.inr h
section
variable {P : Program} {w : World} {ops : Array Oper} {rest : List Oper} {o : Oper} {a : Act} {Q : Exit → Act → World → Prop}
theorem push_room (t ty e : TypeId) (bts : Nat) (z : Value)
    (ht : P.underlying t = some (.slice e)) (hinfo : (P.info? e).map (fun i => (i.zero, i.size, i.bytes)) = some (some z, 1, bts))
    (base g n cap : Nat) (xs : List Value) (y : Value) (hy : y.oneCell' = true) (hown : w.ownsRow base e 1 (.slice (some ⟨g, 0, none⟩) n cap) n xs)
    (ad : Addr) (hnews : ∀ j u, [y][j]? = some u → w.cell? (ad.add j) = some u) (hroom : n + 1 ≤ cap) :
    ∃ w' cur, (Builtin.append_ #[t, t] ty #[.slice (some ⟨g, 0, none⟩) n cap, .slice (some ad) 1 1]).run P w = .ok (.slice (some ⟨g, 0, none⟩) (n + 1) cap) w' ∧
      w'.ownsRow base e 1 (.slice (some ⟨g, 0, none⟩) (n + 1) cap) (n + 1) (xs ++ [y]) ∧ w.heap[g]? = some (.cells cur e (0, 0)) ∧ n < cur.size ∧
      w'.heap[g]? = some (.cells (cur.toList.take n ++ [y] ++ cur.toList.drop (n + 1)).toArray e (0, 0)) ∧ w.grownBy w' (some g) := by
  obtain ⟨i, hi, hzz⟩ := Option.map_eq_some_iff.1 hinfo
  simp only [Prod.mk.injEq] at hzz
  obtain ⟨hz0, hz1, hz2⟩ := hzz
  rcases hown.2 with ⟨h0, _⟩ | ⟨g', cap', cur, hv, hbg, hg, hnc, hcm, hcs, htake⟩
  · cases h0
  · simp only [Value.slice.injEq, Option.some.injEq, Addr.mk.injEq] at hv
    obtain ⟨⟨rfl, _⟩, _, rfl⟩ := hv
    rw [Nat.mul_one] at hcs htake
    have hr := run_append_room (P := P) w t ty e i ht hi g n cap cur hg ad 1 1 [y] (by rw [hz1]; rfl) hnews (fun u hu => by simp at hu; subst hu; exact hy) hroom (by rw [hz1]; simp; omega)
    rw [hz1, Nat.mul_one] at hr
    refine ⟨_, cur, hr, ⟨by rw [List.length_append, hown.1]; simp, .inr ⟨g, cap, _, rfl, hbg, setRow_heap w g cur _ e _ hg, hroom, hcm, ?_, ?_⟩⟩, hg, by omega, setRow_heap w g cur _ e _ hg, ⟨rfl, rfl, rfl, by simp, fun k _ hk => setRow_other w g k _ (fun e => hk (by simp [e]))⟩⟩
    · simp only [List.size_toArray, List.length_append, List.length_take, List.length_drop, Array.length_toList]
      simp; omega
    · rw [htake]
      have hl : (xs ++ [y]).length = (n + 1) * 1 := by rw [List.length_append, hown.1]; simp
      rw [← hl]
      exact List.take_left
/-- append(v, y) to the cell. -/
theorem wpList_push2 (hgd : o.guard = none) (s x : Operand) (t e : TypeId) (z : Value) (bts : Nat)
    (ho : o.op = .call { callee := .builtin .append, args := #[s, x], argTypes := #[t, t] })
    (ht : P.underlying t = some (.slice e)) (hinfo : (P.info? e).map (fun i => (i.zero, i.size, i.bytes)) = some (some z, 1, bts)) (hzs : z.cells.size = 1) (hb0 : 0 < bts)
    (base : Nat) (v : Value) (n : Nat) (xs : List Value) (y : Value) (hy : y.oneCell' = true) (hs : a.eval s = v) (hx : a.eval x = .slice (some ⟨w.heap.size, 0, none⟩) 1 1) (hown : w.ownsRow base e 1 v n xs)
    (hlen : (n + 1) * bts ≤ 140737488355328) (hbase : base ≤ w.heap.size)
    (h : ∀ v' w', w'.ownsRow base e 1 v' (n + 1) (xs ++ [y]) → Grew2 w w' e v v' y → wpList P ops Q rest (a.put o.dst v') w') :
    wpList P ops Q (o :: rest) a (w.alloc (.cells #[y] e)) := by
  have hinfo' := hinfo
  obtain ⟨i0, hi, hzz⟩ := Option.map_eq_some_iff.1 hinfo
  simp only [Prod.mk.injEq] at hzz
  obtain ⟨hz0, hz1, hz2⟩ := hzz
  have h2 : n + 1 ≤ 140737488355328 := Nat.le_trans (Nat.le_mul_of_pos_right _ hb0) hlen
  have hnews := cell_one_new w y e
  have h1c : ∀ u ∈ [y], u.oneCell' = true := fun u hu => by simp at hu; subst hu; exact hy
  have hga : ∀ row, w.grownBy (w.alloc (.cells #[y] e)) row := fun row => World.grownBy_alloc w _ row
  have hgrow : ∀ v' w', w'.ownsRow (w.alloc (.cells #[y] e)).heap.size e 1 v' (n + 1) (xs ++ [y]) → (w.alloc (.cells #[y] e)).grownBy w' none → wpList P ops Q rest (a.put o.dst v') w' := fun v' w' ho' hg => by
    refine h v' w' ?_ (Or.inr ⟨World.grownBy.trans (hga _) hg, ?_⟩)
    · obtain ⟨g1, g2⟩ := ho'
      refine ⟨g1, ?_⟩
      rcases g2 with g2 | ⟨g, cap, cur, e', hg', r⟩
      · exact Or.inl g2
      · exact Or.inr ⟨g, cap, cur, e', by simp at hg'; omega, r⟩
    · rcases ho'.2 with ⟨_, h0⟩ | ⟨g, cap, cur, rfl, hg', _⟩
      · omega
      · exact ⟨g, rfl, by simp at hg'; omega⟩
  have hown1 := World.ownsRow.alloc hown (.cells #[y] e)
  rcases hown.2 with ⟨rfl, rfl⟩ | ⟨g, cap, cur, rfl, hbg, hh, hnc, hcm, hcs, htake⟩
  · obtain rfl : xs = [] := List.eq_nil_of_length_eq_zero (by simpa using hown.1)
    refine wpList_append_grows _ hgd s x t ho e i0 z 1 bts ht hi hz0 hz1 hz2 hzs (by decide) none 0 0 [] hs (fun _ => ⟨rfl, rfl⟩) rfl (fun b e => by cases e) ⟨w.heap.size, 0, none⟩ 1 1 [y] hx rfl hnews h1c (by omega) (by simp only [maxLen]; omega) hlen ?_
    simpa using hgrow
  · by_cases hroom : n + 1 ≤ cap
    · obtain ⟨w', cur', hr, ho', hg1, hn1, hg2, hg'⟩ := push_room (P := P) (w := w.alloc (.cells #[y] e)) t o.type e bts z ht hinfo' base g n cap xs y hy hown1 ⟨w.heap.size, 0, none⟩ hnews hroom
      refine wpList_plain hgd fun _ hK => ?_
      unfold Oper.wp execOp
      simp only [ho, resolve, invoke, builtin, Sem.run_bind, Sem.run_pure, Result.andThen_ok, List.map_toArray, List.map_cons, List.map_nil, hs, hx, hr]
      refine hK _ _ (h _ w' ho' (Or.inl ⟨g, n, cap, cur', rfl, rfl, ?_, hn1, hg2, World.grownBy.trans (hga _) hg'⟩))
      have hlt := (World.ownsRow.lt hown g rfl).2
      rw [← hg1, Below.heap_alloc w _ g hlt]
    · refine wpList_append_grows _ hgd s x t ho e i0 z 1 bts ht hi hz0 hz1 hz2 hzs (by decide) (some ⟨g, 0, none⟩) n cap xs hs (fun e => by cases e) hown.1 (fun b e => by cases e; exact World.ownsRow.cells hown1 rfl) ⟨w.heap.size, 0, none⟩ 1 1 [y] hx rfl hnews h1c (by omega) (by simp only [maxLen]; omega) hlen hgrow
end
theorem rep_set {α : Type} (m n : Nat) (a : α) (l : List α) (hn : n < l.length) (h : l.take m = List.replicate m a) : (l.take n ++ [a] ++ l.drop (n + 1)).take m = List.replicate m a := by
  have e : l.take n ++ [a] ++ l.drop (n + 1) = l.set n a := by
    rw [List.set_eq_take_append_cons_drop, if_pos hn]; simp
  rw [e, List.take_set, h]
  apply List.ext_getElem?
  intro j
  rw [List.getElem?_set]
  by_cases hj : n = j
  · subst hj
    by_cases hm : n < m
    · simp [hm]
    · simp [hm]
  · rw [if_neg hj]
/-- One of them is grown by its mark. -/
theorem Fam.push {base : Nat} {w w' : World} {R : List Mk} (h : Fam base w R) {p : Mk} (hp : p ∈ R) {v' : Value} (ho : OI .u8 5 w' base v' (p.xs ++ [p.a])) (hg : Grew2 w w' 5 p.v v' (.int .u8 p.a)) : Fam base w' (⟨v', p.n + 1, p.a⟩ :: R) := by
  have hxs : p.xs ++ [p.a] = (Mk.mk v' (p.n + 1) p.a).xs := List.replicate_succ'.symm
  rw [hxs] at ho
  rcases hg with ⟨g, n, cap, cur, e1, rfl, h1, h2, h3, h4⟩ | ⟨h1, b, h2, h3⟩
  · have hpb : p.v.ownBlock = some g := by rw [e1]; rfl
    refine ⟨fun q hq => ?_, fun q hq q' hq' b hb hb' => ?_⟩
    · rcases List.mem_cons.1 hq with rfl | hq
      · exact ho
      · by_cases hb : q.v.ownBlock = some g
        · have hqa := h.like q hq p hp g hb hpb
          have hqo := h.own q hq
          refine ⟨hqo.1, ?_⟩
          rcases hqo.2 with h0 | ⟨g', cap', cur', e', hbg, hh, hnc, hcm, hcs, htake⟩
          · exact Or.inl h0
          · obtain rfl : g' = g := by rw [e'] at hb; simpa [Value.ownBlock] using hb
            rw [h1] at hh
            simp only [Option.some.injEq, Obj.cells.injEq] at hh
            obtain ⟨rfl, _⟩ := hh
            refine Or.inr ⟨g', cap', _, e', hbg, h3, hnc, hcm, ?_, ?_⟩
            · simp only [List.size_toArray, List.length_append, List.length_take, List.length_drop, Array.length_toList, List.length_cons, List.length_nil]
              omega
            · rw [Nat.mul_one] at htake ⊢
              have hre : nums .u8 q.xs = List.replicate q.n (.int .u8 p.a) := by rw [← hqa]; simp [nums, Mk.xs]
              have hlen : q.xs.length = q.n := by simp [Mk.xs]
              rw [hre, hlen] at htake ⊢
              exact rep_set q.n n _ cur.toList (by simpa using h2) htake
        · exact (h.own q hq).kept h4 (Or.inr hb)
    · have hf : ∀ q ∈ (Mk.mk (.slice (some ⟨g, 0, none⟩) (n + 1) cap) (p.n + 1) p.a) :: R, q.v.ownBlock = some b → ∃ q2 ∈ R, q2.v.ownBlock = some b ∧ q2.a = q.a := fun q hq hb => by
        rcases List.mem_cons.1 hq with rfl | hq
        · exact ⟨p, hp, by rw [hpb]; simpa [Value.ownBlock] using hb, rfl⟩
        · exact ⟨q, hq, hb, rfl⟩
      obtain ⟨q2, h5, h6, h7⟩ := hf q hq hb
      obtain ⟨q3, h8, h9, h10⟩ := hf q' hq' hb'
      rw [← h7, ← h10]
      exact h.like q2 h5 q3 h8 b h6 h9
  · have hno : ∀ q ∈ R, ¬ q.v.ownBlock = some b := fun q hq hb => by
      have := ((h.own q hq).blk b hb).2; omega
    refine ⟨fun q hq => ?_, fun q hq q' hq' b' hb hb' => ?_⟩
    · rcases List.mem_cons.1 hq with rfl | hq
      · exact ho
      · exact (h.own q hq).kept h1 (by cases q.v.ownBlock <;> simp)
    · rcases List.mem_cons.1 hq with rfl | hq <;> rcases List.mem_cons.1 hq' with rfl | hq'
      · rfl
      · simp only at hb
        rw [h2] at hb; cases hb
        exact absurd hb' (hno q' hq')
      · simp only at hb'
        rw [h2] at hb'; cases hb'
        exact absurd hb (hno q hq)
      · exact h.like q hq q' hq' b' hb hb'
/-- The box and the list of the grown ones stay. -/
theorem Fam.longer {T : TypeId} {base : Nat} {w w' : World} {lv lv' : Value} {R : List Mk} {us : List Value} (h : Fam base w R) (hne : (5 : TypeId) ≠ T) (hl : w.ownsRow base T 1 lv us.length us) (hg : Grew w w' lv lv') : Fam base w' R :=
  h.keep hg.grown fun v xs hv => own_unlike hv hl hne
end Go.Proofs.YtblfmofhfbbmdaaDoor
