/- A comment closed, a comment removed: plainly; own rows of comments under a store, cut, mended. -/
import Derived.Test.YtagfedbdakmlgaaGreatDoorPk15
import Derived.Test.YtagfedbdakmlgaaGreatDoorPk13
import Derived.Laws.OwnMore
namespace Go.Proofs.YtagfedbdakmlgaaGreatDoor
set_option linter.unusedVariables false
set_option linter.unusedSimpArgs false
open Go.RowKit

/-- a document and an error -/
abbrev DE := Doc × Int
def DEPost (X : DE) (w : World) (en : Ending) (w' : World) : Prop :=
  ∃ h', en = .returned (.tuple #[.agg (X.1.cells h'), .int .i64 X.2]) ∧ DocOwn w' w.heap.size X.1 h' ∧ Ext w w'
theorem dePost_err {X : DE} {e : Int} {w w' : World} (he : X = (Doc.zero, e)) (hx : Ext w w') : DEPost X w (.returned (.tuple #[.agg docZero, .int .i64 e])) w' := by
  subst he
  exact ⟨docH0, by rw [docZero_cells], docZero_own _ _, hx⟩
def Com.shut (c : Com) : Com := ⟨c.id, c.ev, c.fr, c.til, c.author, c.text, true, c.lost⟩
def Doc.withComs (d : Doc) (l : List Com) : Doc := ⟨d.title, d.lang, d.rate, d.drop, d.last, d.regs, d.evs, l⟩
/-- what Close comes to -/
def Doc.clX (d : Doc) (id : Int) : DE :=
  if d.err ≠ 0 then (Doc.zero, d.err) else match findC d.coms id with
    | none => (Doc.zero, 6)
    | some k => match d.coms[k]? with
      | none => (Doc.zero, 6)
      | some c => if c.done = true then (Doc.zero, 17) else (d.withComs (d.coms.set k c.shut), 0)
/-- what Remove comes to -/
def Doc.rmX (d : Doc) (id : Int) : DE :=
  if d.err ≠ 0 then (Doc.zero, d.err) else match findC d.coms id with
    | none => (Doc.zero, 6)
    | some k => (d.withComs (d.coms.take k ++ d.coms.drop (k + 1)), 0)
section
variable {d : Doc} {id : Int} {k : Nat} {c : Com}
theorem clX_1 (h : d.err ≠ 0) : d.clX id = (Doc.zero, d.err) := by unfold Doc.clX; rw [if_pos h]
theorem clX_2 (h : d.err = 0) (h2 : findC d.coms id = none) : d.clX id = (Doc.zero, 6) := by unfold Doc.clX; rw [if_neg (by simpa using h), h2]
theorem clX_3 (h : d.err = 0) (h2 : findC d.coms id = some k) (h3 : d.coms[k]? = some c) (h4 : c.done = true) : d.clX id = (Doc.zero, 17) := by unfold Doc.clX; rw [if_neg (by simpa using h), h2]; simp only; rw [h3]; simp only; rw [if_pos h4]
theorem clX_4 (h : d.err = 0) (h2 : findC d.coms id = some k) (h3 : d.coms[k]? = some c) (h4 : c.done = false) : d.clX id = (d.withComs (d.coms.set k c.shut), 0) := by unfold Doc.clX; rw [if_neg (by simpa using h), h2]; simp only; rw [h3]; simp only; rw [if_neg (by simp [h4])]
theorem rmX_1 (h : d.err ≠ 0) : d.rmX id = (Doc.zero, d.err) := by unfold Doc.rmX; rw [if_pos h]
theorem rmX_2 (h : d.err = 0) (h2 : findC d.coms id = none) : d.rmX id = (Doc.zero, 6) := by unfold Doc.rmX; rw [if_neg (by simpa using h), h2]
theorem rmX_3 (h : d.err = 0) (h2 : findC d.coms id = some k) : d.rmX id = (d.withComs (d.coms.take k ++ d.coms.drop (k + 1)), 0) := by unfold Doc.rmX; rw [if_neg (by simpa using h), h2]
end
theorem findC_lt {l : List Com} {id : Int} {k : Nat} (h : findC l id = some k) : k < l.length := by
  unfold findC at h
  rw [List.findIdx?_eq_some_iff_getElem] at h
  exact h.1
/-- a cell of an element is stored -/
theorem flatMap_setC {α : Type} {f : α → List Value} {s : Nat} (hf : ∀ x, (f x).length = s) : ∀ {l : List α} {k j : Nat} {x y : α} {u : Value}, l[k]? = some x → f y = (f x).set j u → j < s → (l.flatMap f).set (k * s + j) u = (l.set k y).flatMap f
  | [], k, j, x, y, u, hx, _, _ => by simp at hx
  | z :: l, 0, j, x, y, u, hx, hy, hj => by
    simp only [List.getElem?_cons_zero, Option.some.injEq] at hx
    subst hx
    simp only [List.flatMap_cons, List.set_cons_zero, Nat.zero_mul, Nat.zero_add]
    rw [List.set_append_left _ _ (by rw [hf]; exact hj), hy]
  | z :: l, k + 1, j, x, y, u, hx, hy, hj => by
    simp only [List.getElem?_cons_succ] at hx
    simp only [List.flatMap_cons, List.set_cons_succ]
    have e : (k + 1) * s + j = (f z).length + (k * s + j) := by rw [hf, Nat.succ_mul]; omega
    rw [e, List.set_append_right _ _ (by omega), Nat.add_sub_cancel_left, flatMap_setC hf hx hy hj]
/-- a prefix of one's own row -/
theorem own_prefix {w : World} {L : Nat} {e : TypeId} {size : Nat} {A : Option Addr} {n c k : Nat} {xs : List Value} (h : w.ownsRow L e size (.slice A n c) n xs) (hk : k ≤ n) : w.ownsRow L e size (.slice A k c) k (xs.take (k * size)) := by
  obtain ⟨hl, h2⟩ := h
  have hks : k * size ≤ n * size := Nat.mul_le_mul_right _ hk
  refine ⟨by rw [List.length_take]; omega, ?_⟩
  rcases h2 with ⟨hv, hn⟩ | ⟨g, cap, cur, hv, hg, hb, hnc, hcm, hcs, ht⟩
  · cases hv
    obtain rfl : k = 0 := by omega
    exact .inl ⟨rfl, rfl⟩
  · cases hv
    refine .inr ⟨g, _, cur, rfl, hg, hb, by omega, hcm, hcs, ?_⟩
    rw [← ht, List.take_take, Nat.min_eq_left hks]
theorem flatMap_take {α : Type} {f : α → List Value} {s : Nat} (hf : ∀ x, (f x).length = s) (l : List α) : ∀ (k : Nat), (l.flatMap f).take (k * s) = (l.take k).flatMap f := by
  induction l with
  | nil => intro k; simp
  | cons z l ih =>
    intro k
    cases k with
    | zero => simp
    | succ k =>
      simp only [List.flatMap_cons, List.take_succ_cons]
      have e : (k + 1) * s = (f z).length + k * s := by rw [hf, Nat.succ_mul]; omega
      rw [e, List.take_length_add_append, ih]
theorem flatMap_drop {α : Type} {f : α → List Value} {s : Nat} (hf : ∀ x, (f x).length = s) (l : List α) : ∀ (k : Nat), (l.flatMap f).drop (k * s) = (l.drop k).flatMap f := by
  induction l with
  | nil => intro k; simp
  | cons z l ih =>
    intro k
    cases k with
    | zero => simp
    | succ k =>
      simp only [List.flatMap_cons, List.drop_succ_cons]
      have e : (k + 1) * s = (f z).length + k * s := by rw [hf, Nat.succ_mul]; omega
      rw [e, List.drop_length_add_append, ih]
/-- one's own document with a comment shut -/
theorem DocOwn.shut {w : World} {L k : Nat} {d : Doc} {h : DocH} {c : Com} (o : DocOwn w L d h) (hc : d.coms[k]? = some c) : ∃ g, h.ca = some ⟨g, 0, none⟩ ∧ L ≤ g ∧ Typed w 78 g ∧ w.cell? ⟨g, k * 8 + 6, none⟩ = some (.bool c.done) ∧ w.frozen? ⟨g, k * 8 + 6, none⟩ = false ∧
    DocOwn (w.setCell ⟨g, k * 8 + 6, none⟩ (.bool true)) L (d.withComs (d.coms.set k c.shut)) h ∧ w.grownBy (w.setCell ⟨g, k * 8 + 6, none⟩ (.bool true)) (some g) := by
  obtain ⟨a1, a2, a3, a4, a5⟩ := o
  have hk := (List.getElem?_eq_some_iff.1 hc).1
  have hty := own_typed a4
  have hlt := own_lt a4
  rcases a4.2 with ⟨hv, hn⟩ | ⟨g, cap, cur, hv, hg, hb, hnc, hcm, hcs, ht⟩
  · rw [hn] at a5; omega
  · have hca : h.ca = some ⟨g, 0, none⟩ := by injection hv
    rw [hca] at a4 hty
    have hs := a4.stored (k * 8 + 6) (.bool true)
    have hT : Typed w 78 g := hty g rfl
    have hkb : ∀ {T : TypeId}, T ≠ 78 → KB T w (w.setCell ⟨g, k * 8 + 6, none⟩ (.bool true)) := fun hne => KB.grown hs.2 (fun q hq => by cases hq; exact hT) hne
    have hfl : (d.coms.flatMap Com.vals).set (k * 8 + 6) (.bool true) = (d.coms.set k c.shut).flatMap Com.vals := flatMap_setC (f := Com.vals) (s := 8) (fun _ => rfl) hc rfl (by omega)
    refine ⟨g, hca, hg, hT, ?_, hT.frozen _, ⟨own_kb a1 (hkb (by decide)), a2, a3.kb (hkb (by decide)) (hkb (by decide)) (hkb (by decide)), ?_, by show (d.coms.set k c.shut).length = _; simpa using a5⟩, hs.2⟩
    · rw [a4.cellAt (k * 8 + 6) (by omega), flatMap_at Com.vals 8 (fun _ => rfl) d.coms k c 6 hc (by omega)]
      rfl
    · show World.ownsRow _ _ _ _ _ _ ((d.coms.set k c.shut).flatMap Com.vals)
      rw [← hfl, hca]
      exact hs.1
end Go.Proofs.YtagfedbdakmlgaaGreatDoor
