/- Laid together: Stable sorting, plainly. More memory and no fewer draws: what the sort asks of its comparison; a drawn region with calls in that class. The stable sort of events: what its walks take of the program; rows as arrays and as lists. The stable sort of events: the insertion. The stable sort of events: ranges exchanged, blocks turned. The stable sort of events: the merge where one side is one. The stable sort of events: the symmetric merge. The stable sort of events: the merge at whatever length, the blocks, SortStableFunc. slices.Clone of regions, comments and heads of events. The walk of document.Clone. A row of one's own under the sort: what the sort asks of it, and what lies there behind it. slices.SortFunc of overlaps, at the comparison of display.Overlaps. The walk of display.meet; sets of cells in memory. Two variables made and filled in a drawn region. -/
import Derived.Test.YtajbhfmdmajpmaaGreatDoorRows
import Derived.Test.YtajbhfmdmajpmaaGreatDoorPk12
import Derived.Sort.Grow
import Derived.Shelf.SlSortCmp.KitK
import Derived.Sort.WalkB2
import Derived.Sort.WalkB12
import Derived.Deep.LoopGhost
import Derived.Test.YtajbhfmdmajpmaaGreatDoorPk15
import Derived.Test.YtajbhfmdmajpmaaGreatDoorPk06
import Derived.Test.YtajbhfmdmajpmaaGreatDoorPk01
import Derived.Test.YtajbhfmdmajpmaaGreatDoorPk16
import Derived.Shelf.SlSortCmp.WholeK
import Derived.Shelf.SlSortCmp.NoneTotal
import Derived.Test.YtajbhfmdmajpmaaGreatDoorPk18
import Derived.Test.YtajbhfmdmajpmaaGreatDoorPk13
import Derived.Test.YtajbhfmdmajpmaaGreatDoorPk10

/-! SortP -/
namespace Go.Proofs.YtajbhfmdmajpmaaGreatDoor.Stb
set_option linter.unusedVariables false
set_option linter.unusedSimpArgs false
section
variable {α : Type}
/-- a strict weak order -/
structure SW (lt : α → α → Bool) : Prop where
  asym : ∀ x y, lt x y = true → lt y x = false
  trans : ∀ x y z, lt y x = false → lt z y = false → lt z x = false
def eqv (lt : α → α → Bool) (x y : α) : Bool := !lt x y && !lt y x
/-- two places exchanged -/
def swp (l : List α) (i j : Nat) : List α := match l[i]?, l[j]? with
  | some x, some y => (l.set i y).set j x
  | _, _ => l
theorem swp_at {l : List α} {i j : Nat} (hi : i < l.length) (hj : j < l.length) (p : Nat) : (swp l i j)[p]? = if p = j then l[i]? else if p = i then l[j]? else l[p]? := by
  unfold swp
  rw [List.getElem?_eq_getElem hi, List.getElem?_eq_getElem hj]
  simp only
  rw [List.getElem?_set, List.getElem?_set]
  by_cases h1 : p = j
  · subst h1; simp [hj]
  · rw [if_neg (Ne.symm h1), if_neg h1]
    by_cases h2 : p = i
    · subst h2; simp [hi]
    · rw [if_neg (Ne.symm h2), if_neg h2]
/-- the blocks [a, m) and [m, b) exchanged -/
def rot (l : List α) (a m b : Nat) : List α := l.take a ++ ((l.take b).drop m ++ ((l.take m).drop a ++ l.drop b))
theorem rot_len {l : List α} {a m b : Nat} (h1 : a ≤ m) (h2 : m ≤ b) (h3 : b ≤ l.length) : (rot l a m b).length = l.length := by
  unfold rot; simp only [List.length_append, List.length_take, List.length_drop]; omega
theorem rot_at {l : List α} {a m b : Nat} (h1 : a ≤ m) (h2 : m ≤ b) (h3 : b ≤ l.length) (p : Nat) :
    (rot l a m b)[p]? = if p < a then l[p]? else if p < a + (b - m) then l[p + (m - a)]? else if p < b then l[p - (b - m)]? else l[p]? := by
  unfold rot
  simp only [List.getElem?_append, List.length_take, List.length_drop, List.getElem?_take, List.getElem?_drop]
  by_cases c1 : p < a
  · rw [if_pos (by omega), if_pos c1, if_pos c1]
  rw [if_neg (by omega), if_neg c1]
  by_cases c2 : p < a + (b - m)
  · rw [if_pos (by omega), if_pos (by omega), if_pos c2]; congr 1; omega
  rw [if_neg (by omega), if_neg c2]
  by_cases c3 : p < b
  · rw [if_pos (by omega), if_pos (by omega), if_pos c3]; congr 1; omega
  · rw [if_neg (by omega), if_neg c3]; congr 1; omega
/-- the ranges of n from a and from b exchanged -/
def swr (l : List α) (a b : Nat) : Nat → List α
  | 0 => l
  | n + 1 => swp (swr l a b n) (a + n) (b + n)
/-- l' is l but for a stable change of the places [a, b) -/
structure Loc (lt : α → α → Bool) (a b : Nat) (l l' : List α) : Prop where
  len : l'.length = l.length
  out : ∀ p, p < a ∨ b ≤ p → l'[p]? = l[p]?
  cls : ∀ k, l'.filter (eqv lt k) = l.filter (eqv lt k)
variable {lt : α → α → Bool} {a b c d m : Nat} {l l' l2 : List α}
theorem Loc.refl (l : List α) : Loc lt a b l l := ⟨rfl, fun _ _ => rfl, fun _ => rfl⟩
theorem Loc.trans (h : Loc lt a b l l') (k : Loc lt a b l' l2) : Loc lt a b l l2 := ⟨k.len.trans h.len, fun p hp => (k.out p hp).trans (h.out p hp), fun x => (k.cls x).trans (h.cls x)⟩
theorem Loc.wide (h : Loc lt a b l l') (h1 : c ≤ a) (h2 : b ≤ d) : Loc lt c d l l' := ⟨h.len, fun p hp => h.out p (by omega), h.cls⟩
theorem SW.irr (w : SW lt) (x : α) : lt x x = false := by
  cases h : lt x x
  · rfl
  · have := w.asym x x h; rw [h] at this; exact this
theorem eqv_self (w : SW lt) (x : α) : eqv lt x x = true := by
  simp [eqv, w.irr x]
theorem eqv_trans (w : SW lt) {k x y : α} (h1 : eqv lt k x = true) (h2 : eqv lt k y = true) : lt x y = false ∧ lt y x = false := by
  simp only [eqv, Bool.and_eq_true, Bool.not_eq_true'] at h1 h2
  exact ⟨w.trans y k x h2.1 h1.2, w.trans x k y h1.1 h2.2⟩
theorem Loc.rot (w : SW lt) (h1 : a ≤ m) (h2 : m ≤ b) (h3 : b ≤ l.length) (hne : ∀ p q x y, a ≤ p → p < m → m ≤ q → q < b → l[p]? = some x → l[q]? = some y → lt y x = true) : Loc lt a b l (rot l a m b) := by
  refine ⟨rot_len h1 h2 h3, fun p hp => ?_, fun k => ?_⟩
  · rw [rot_at h1 h2 h3]
    rcases hp with hp | hp
    · rw [if_pos hp]
    · rw [if_neg (by omega), if_neg (by omega), if_neg (by omega)]
  · have e : l = l.take a ++ ((l.take m).drop a ++ ((l.take b).drop m ++ l.drop b)) := by
      apply List.ext_getElem?; intro p
      simp only [List.getElem?_append, List.length_take, List.length_drop, List.getElem?_take, List.getElem?_drop]
      repeat' split
      all_goals first | rfl | (congr 1; omega) | (exfalso; omega)
    unfold Stb.rot
    conv => rhs; rw [e]
    simp only [List.filter_append]
    congr 1
    rw [← List.append_assoc, ← List.append_assoc]
    congr 1
    have key : (((l.take m).drop a).filter (eqv lt k)) = [] ∨ (((l.take b).drop m).filter (eqv lt k)) = [] := by
      by_cases hu : (((l.take m).drop a).filter (eqv lt k)) = []
      · exact .inl hu
      right
      obtain ⟨x, hx⟩ := List.exists_mem_of_ne_nil _ hu
      rw [List.mem_filter] at hx
      rw [List.filter_eq_nil_iff]
      intro y hy hk
      obtain ⟨p, hp⟩ := List.getElem?_of_mem hx.1
      obtain ⟨q, hq⟩ := List.getElem?_of_mem hy
      rw [List.getElem?_drop, List.getElem?_take] at hp hq
      split at hp
      · split at hq
        · have := hne _ _ x y (by omega) (by omega) (by omega) (by omega) hp hq
          rw [(eqv_trans w hx.2 hk).2] at this
          cases this
        · cases hq
      · cases hp
    rcases key with h | h <;> rw [h] <;> simp
/-- whatever lies there has lain there -/
theorem Loc.mem (w : SW lt) (h : Loc lt a b l l') {p : Nat} {x : α} (hp : a ≤ p) (hp2 : p < b) (hx : l'[p]? = some x) : ∃ q, a ≤ q ∧ q < b ∧ l[q]? = some x := by
  have hl := (List.getElem?_eq_some_iff.1 hx).1
  have hab : a ≤ b := by omega
  have e : ∀ s : List α, s = s.take a ++ ((s.take b).drop a ++ s.drop b) := fun s => by
    have h1 : (s.take b).take a = s.take a := by rw [List.take_take, Nat.min_eq_left hab]
    rw [← List.append_assoc, ← h1, List.take_append_drop, List.take_append_drop]
  have e1 : l'.take a = l.take a := by
    apply List.ext_getElem?; intro p
    simp only [List.getElem?_take]
    split
    · exact h.out p (by omega)
    · rfl
  have e2 : l'.drop b = l.drop b := by
    apply List.ext_getElem?; intro p
    simp only [List.getElem?_drop]
    exact h.out _ (by omega)
  have hc := h.cls x
  rw [e l', e l, e1, e2] at hc
  simp only [List.filter_append] at hc
  have hc := List.append_cancel_right (List.append_cancel_left hc)
  have hm : x ∈ ((l'.take b).drop a).filter (eqv lt x) := by
    rw [List.mem_filter]
    refine ⟨List.mem_of_getElem? (i := p - a) ?_, eqv_self w x⟩
    rw [List.getElem?_drop, List.getElem?_take, if_pos (by omega)]
    rw [show a + (p - a) = p by omega]; exact hx
  rw [hc, List.mem_filter] at hm
  obtain ⟨q, hq⟩ := List.getElem?_of_mem hm.1
  rw [List.getElem?_drop, List.getElem?_take] at hq
  split at hq
  · exact ⟨a + q, by omega, by omega, hq⟩
  · cases hq
/-- the places [a, b) are in order -/
def Srt (lt : α → α → Bool) (l : List α) (a b : Nat) : Prop := ∀ p q x y, a ≤ p → p < q → q < b → l[p]? = some x → l[q]? = some y → lt y x = false
theorem Srt.one (h : b ≤ a + 1) : Srt lt l a b := fun p q x y h1 h2 h3 => by omega
theorem Srt.of_out (h : Srt lt l a b) (k : Loc lt c d l l') (hd : b ≤ c ∨ d ≤ a) : Srt lt l' a b := fun p q x y h1 h2 h3 h4 h5 =>
  h p q x y h1 h2 h3 (by rw [← k.out p (by omega)]; exact h4) (by rw [← k.out q (by omega)]; exact h5)
/-- insertion: all is in order but for what lies at j, seen from ahead -/
def Ins (lt : α → α → Bool) (l : List α) (a j i : Nat) : Prop := ∀ p q x y, a ≤ p → p < q → q ≤ i → q ≠ j → l[p]? = some x → l[q]? = some y → lt y x = false
theorem Ins.start {i : Nat} (h : Srt lt l a i) : Ins lt l a i i := fun p q x y h1 h2 h3 h4 => h p q x y h1 h2 (by omega)
theorem Ins.step (w : SW lt) {i j : Nat} {x y : α} (h : Ins lt l a j i) (h1 : a < j) (h2 : j ≤ i) (h3 : i < l.length) (hx : l[j - 1]? = some x) (hy : l[j]? = some y) (hlt : lt y x = true) : Ins lt (swp l j (j - 1)) a (j - 1) i := by
  intro p q u v hp hpq hq hne hu hv
  rw [swp_at (by omega) (by omega)] at hu hv
  by_cases q1 : q = j
  · subst q1
    rw [if_neg (by omega), if_pos rfl] at hv
    by_cases p1 : p = q - 1
    · subst p1
      rw [if_pos rfl] at hu
      rw [hu] at hy; cases hy
      rw [hv] at hx; cases hx
      exact w.asym _ _ hlt
    · rw [if_neg p1, if_neg (by omega)] at hu
      exact h p (q - 1) u v hp (by omega) (by omega) (by omega) hu hv
  · rw [if_neg hne, if_neg q1] at hv
    by_cases p1 : p = j - 1
    · subst p1
      rw [if_pos rfl] at hu
      exact h j q u v (by omega) (by omega) hq q1 hu hv
    · rw [if_neg p1] at hu
      by_cases p2 : p = j
      · subst p2
        rw [if_pos rfl] at hu
        exact h (p - 1) q u v (by omega) (by omega) hq q1 hu hv
      · rw [if_neg p2] at hu
        exact h p q u v hp hpq hq q1 hu hv
theorem Ins.end_ {i j : Nat} (w : SW lt) (h : Ins lt l a j i) (hi : i < l.length) (hj : j ≤ i) (hlt : j ≤ a ∨ ∀ x y, l[j - 1]? = some x → l[j]? = some y → lt y x = false) : Srt lt l a (i + 1) := by
  intro p q x y h1 h2 h3 hx hy
  by_cases hq : q = j
  · subst hq
    rcases hlt with hlt | hlt
    · omega
    · by_cases hp : p = q - 1
      · subst hp; exact hlt x y hx hy
      · obtain ⟨z, hz⟩ : ∃ z, l[q - 1]? = some z := ⟨_, List.getElem?_eq_getElem (by omega)⟩
        exact w.trans x z y (h p (q - 1) x z h1 (by omega) (by omega) (by omega) hx hz) (hlt z y hz hy)
  · exact h p q x y h1 h2 (by omega) hq hx hy
/-- what the search of the symmetric merge has found -/
structure Cut (lt : α → α → Bool) (l : List α) (a m b mid s : Nat) : Prop where
  ge : a ≤ s
  lem : s ≤ m
  mide : mid + m - s ≤ b
  le : m ≤ mid + m - s
  mid_ge : s ≤ mid
  lo : ∀ x y, a < s → l[s - 1]? = some x → l[mid + m - s]? = some y → mid + m - s < b → lt y x = false
  hi : ∀ x y, s < m → m < mid + m - s → l[s]? = some x → l[mid + m - s - 1]? = some y → lt y x = true
theorem Cut.rot (w : SW lt) {mid s : Nat} (h : Cut lt l a m b mid s) (h3 : b ≤ l.length) (s1 : Srt lt l a m) (s2 : Srt lt l m b) : Loc lt a b l (rot l s m (mid + m - s)) ∧ Srt lt (rot l s m (mid + m - s)) a s ∧ Srt lt (rot l s m (mid + m - s)) s mid ∧
    Srt lt (rot l s m (mid + m - s)) mid (mid + m - s) ∧ Srt lt (rot l s m (mid + m - s)) (mid + m - s) b ∧
    ∀ p q x y, a ≤ p → p < mid → mid ≤ q → q < b → (rot l s m (mid + m - s))[p]? = some x → (rot l s m (mid + m - s))[q]? = some y → lt y x = false := by
  obtain ⟨g1, g2, g3, g4, g5, lo, hi⟩ := h
  have hle : ∀ p q x y, s ≤ p → p < m → m ≤ q → q < mid + m - s → l[p]? = some x → l[q]? = some y → lt y x = true := fun p q x y h1 h2 h3' h4 hx hy => by
    obtain ⟨u, hu⟩ : ∃ u, l[s]? = some u := ⟨_, List.getElem?_eq_getElem (by omega)⟩
    obtain ⟨v, hv⟩ : ∃ v, l[mid + m - s - 1]? = some v := ⟨_, List.getElem?_eq_getElem (by omega)⟩
    have huv := hi u v (by omega) (by omega) hu hv
    have hux : lt x u = false := by
      by_cases hp : p = s
      · subst hp; rw [hu] at hx; cases hx; exact w.irr _
      · exact s1 s p u x g1 (by omega) h2 hu hx
    have hyv : lt v y = false := by
      by_cases hq : q = mid + m - s - 1
      · subst hq; rw [hv] at hy; cases hy; exact w.irr _
      · exact s2 q _ y v h3' (by omega) (by omega) hy hv
    cases hyx : lt y x
    · have h1 := w.trans x y v hyx hyv
      have h2 := w.trans u x v hux h1
      rw [huv] at h2; exact h2.symm
    · rfl
  have hat := rot_at (l := l) g2 g4 (by omega)
  refine ⟨(Loc.rot w g2 g4 (by omega) hle).wide g1 g3, ?_, ?_, ?_, ?_, ?_⟩
  · intro p q x y h1 h2 h3 hx hy
    rw [hat, if_pos (by omega)] at hx hy
    exact s1 p q x y h1 h2 (by omega) hx hy
  · intro p q x y h1 h2 h3 hx hy
    rw [hat, if_neg (by omega), if_pos (by omega)] at hx hy
    exact s2 _ _ x y (by omega) (by omega) (by omega) hx hy
  · intro p q x y h1 h2 h3 hx hy
    rw [hat, if_neg (by omega), if_neg (by omega), if_pos (by omega)] at hx hy
    exact s1 _ _ x y (by omega) (by omega) (by omega) hx hy
  · intro p q x y h1 h2 h3 hx hy
    rw [hat, if_neg (by omega), if_neg (by omega), if_neg (by omega)] at hx hy
    exact s2 p q x y (by omega) h2 h3 hx hy
  · intro p q x y h1 h2 h3 h4 hx hy
    rw [hat] at hx hy
    rw [if_neg (by omega), if_neg (by omega)] at hy
    by_cases c1 : p < s
    · rw [if_pos c1] at hx
      by_cases c2 : q < mid + m - s
      · rw [if_pos c2] at hy
        exact s1 _ _ x y h1 (by omega) (by omega) hx hy
      · rw [if_neg c2] at hy
        obtain ⟨u, hu⟩ : ∃ u, l[s - 1]? = some u := ⟨_, List.getElem?_eq_getElem (by omega)⟩
        obtain ⟨v, hv⟩ : ∃ v, l[mid + m - s]? = some v := ⟨_, List.getElem?_eq_getElem (by omega)⟩
        have huv := lo u v (by omega) hu hv (by omega)
        have hxu : lt u x = false := by
          by_cases hp : p = s - 1
          · subst hp; rw [hu] at hx; cases hx; exact w.irr _
          · exact s1 p _ x u h1 (by omega) (by omega) hx hu
        have hvy : lt y v = false := by
          by_cases hq : q = mid + m - s
          · subst hq; rw [hv] at hy; cases hy; exact w.irr _
          · exact s2 _ q v y (by omega) (by omega) h4 hv hy
        exact w.trans x v y (w.trans x u v hxu huv) hvy
    · rw [if_neg c1, if_pos (by omega)] at hx
      by_cases c2 : q < mid + m - s
      · rw [if_pos c2] at hy
        exact w.asym _ _ (hle _ _ y x (by omega) (by omega) (by omega) (by omega) hy hx)
      · rw [if_neg c2] at hy
        exact s2 _ _ x y (by omega) (by omega) h4 hx hy
/-- the two halves sorted each, and the left not above the right -/
theorem Srt.join (w : SW lt) {mid : Nat} (k1 : Loc lt a mid l l') (k2 : Loc lt mid b l' l2) (s1 : Srt lt l' a mid) (s2 : Srt lt l2 mid b) (h1 : a ≤ mid) (h2 : mid ≤ b)
    (hc : ∀ p q x y, a ≤ p → p < mid → mid ≤ q → q < b → l[p]? = some x → l[q]? = some y → lt y x = false) : Loc lt a b l l2 ∧ Srt lt l2 a b := by
  refine ⟨(k1.wide (Nat.le_refl _) h2).trans (k2.wide h1 (Nat.le_refl _)), fun p q x y a1 a2 a3 hx hy => ?_⟩
  by_cases hq : q < mid
  · exact (s1.of_out k2 (.inl (Nat.le_refl _))) p q x y a1 a2 hq hx hy
  by_cases hp : mid ≤ p
  · exact s2 p q x y hp a2 a3 hx hy
  rw [k2.out p (by omega)] at hx
  obtain ⟨p', hp1, hp2, hx'⟩ := k1.mem w a1 (by omega) hx
  obtain ⟨q', hq1, hq2, hy'⟩ := k2.mem w (by omega) a3 hy
  rw [k1.out q' (by omega)] at hy'
  exact hc p' q' x y hp1 hp2 hq1 hq2 hx' hy'
/-- from a on blocks of B are in order, up to n -/
inductive Bl (lt : α → α → Bool) (l : List α) (B n : Nat) : Nat → Prop
  | nil {a : Nat} : n ≤ a → Bl lt l B n a
  | cons {a : Nat} : Srt lt l a (min (a + B) n) → Bl lt l B n (a + B) → Bl lt l B n a
/-- up to a blocks of B are in order -/
inductive Up (lt : α → α → Bool) (l : List α) (B : Nat) : Nat → Prop
  | nil : Up lt l B 0
  | snoc {a : Nat} : Up lt l B a → Srt lt l a (a + B) → Up lt l B (a + B)
theorem Bl.out {B n e : Nat} (h : Bl lt l B n e) (k : Loc lt c d l l') (hd : d ≤ e) : Bl lt l' B n e := by
  induction h with
  | nil h => exact .nil h
  | cons h1 _ ih => exact .cons (h1.of_out k (.inr hd)) (ih (by omega))
theorem Up.out {B e : Nat} (h : Up lt l B e) (k : Loc lt c d l l') (hd : e ≤ c) : Up lt l' B e := by
  induction h with
  | nil => exact .nil
  | snoc _ h2 ih => exact .snoc (ih (by omega)) (h2.of_out k (.inl hd))
theorem Up.join {B n e : Nat} (h : Up lt l B e) (k : Bl lt l B n e) (he : e ≤ n) : Bl lt l B n 0 := by
  induction h with
  | nil => exact k
  | snoc h1 h2 ih => exact ih (.cons (by rw [Nat.min_eq_left he]; exact h2) k) (by omega)
theorem Bl.head {B n e : Nat} (h : Bl lt l B n e) (he : e < n) : Srt lt l e (min (e + B) n) ∧ Bl lt l B n (e + B) := by
  cases h with
  | nil h => omega
  | cons h1 h2 => exact ⟨h1, h2⟩
theorem Bl.all {B n : Nat} (h : Bl lt l B n 0) (hB : n ≤ B) : Srt lt l 0 n := by
  by_cases h0 : 0 < n
  · have := (h.head h0).1
    rwa [Nat.zero_add, Nat.min_eq_right hB] at this
  · exact Srt.one (by omega)
/-- stable insertion -/
def insS (lt : α → α → Bool) (x : α) : List α → List α
  | [] => [x]
  | y :: l => if lt x y = true then x :: y :: l else y :: insS lt x l
def sortS (lt : α → α → Bool) (l : List α) : List α := l.foldl (fun acc x => insS lt x acc) []
theorem insS_mem (x : α) : ∀ (l : List α) (z : α), z ∈ insS lt x l ↔ z = x ∨ z ∈ l
  | [], z => by simp [insS]
  | y :: l, z => by
    unfold insS
    split
    · simp
    · simp only [List.mem_cons, insS_mem x l z]; constructor <;> (rintro (h | h | h) <;> simp [h])
theorem insS_len (x : α) : ∀ l : List α, (insS lt x l).length = l.length + 1
  | [] => rfl
  | y :: l => by unfold insS; split <;> simp [insS_len x l]
theorem sortS_len (l : List α) : (sortS lt l).length = l.length := by
  have key : ∀ (l acc : List α), (l.foldl (fun acc x => insS lt x acc) acc).length = acc.length + l.length := by
    intro l
    induction l with
    | nil => intro acc; rfl
    | cons x l ih => intro acc; rw [List.foldl_cons, ih, insS_len, List.length_cons]; omega
  simpa [sortS] using key l []
theorem sortS_mem (l : List α) (z : α) : z ∈ sortS lt l ↔ z ∈ l := by
  have key : ∀ (l acc : List α), z ∈ l.foldl (fun acc x => insS lt x acc) acc ↔ z ∈ acc ∨ z ∈ l := by
    intro l
    induction l with
    | nil => intro acc; simp
    | cons x l ih => intro acc; rw [List.foldl_cons, ih, insS_mem, List.mem_cons, or_comm (a := z = x), or_assoc]
  simpa [sortS] using key l []
/-- sorting by a key of the first of pairs -/
theorem sortS_map {β : Type} {lt' : β → β → Bool} {f : α → β} (hf : ∀ x y, lt' (f x) (f y) = lt x y) : ∀ l : List α, (sortS lt l).map f = sortS lt' (l.map f) := by
  have hi : ∀ (x : α) (l : List α), (insS lt x l).map f = insS lt' (f x) (l.map f) := fun x l => by
    induction l with
    | nil => rfl
    | cons y l ih =>
      simp only [insS, List.map_cons, hf]
      split <;> simp [ih]
  have key : ∀ (l acc : List α), (l.foldl (fun acc x => insS lt x acc) acc).map f = (l.map f).foldl (fun acc x => insS lt' x acc) (acc.map f) := by
    intro l
    induction l with
    | nil => intro acc; rfl
    | cons x l ih => intro acc; rw [List.foldl_cons, ih, hi, List.map_cons, List.foldl_cons]
  intro l
  exact key l []
end
end Go.Proofs.YtajbhfmdmajpmaaGreatDoor.Stb

/-! Extd -/
namespace Go.Proofs.YtajbhfmdmajpmaaGreatDoor
set_option linter.unusedVariables false
set_option linter.unusedSimpArgs false
open Go.RowKit
structure Extd (w w' : World) : Prop where
  ext : Ext w w'
  dr : w.drawn ≤ w'.drawn
section
variable {w w1 w2 : World}
theorem Extd.refl (w : World) : Extd w w := ⟨Ext.refl w, Nat.le_refl _⟩
theorem Extd.trans (h : Extd w w1) (k : Extd w1 w2) : Extd w w2 := ⟨h.ext.trans k.ext, Nat.le_trans h.dr k.dr⟩
theorem Extd.drew (h : Extd w w1) : Extd w w1.drew := ⟨h.ext.drew, Nat.le_succ_of_le h.dr⟩
theorem Extd.alloc (h : Extd w w1) (o : Obj) : Extd w (w1.alloc o) := ⟨h.ext.alloc o, h.dr⟩
theorem Extd.setCell (h : Extd w w1) {p : Addr} (hp : w.heap.size ≤ p.block) (u : Value) : Extd w (w1.setCell p u) := ⟨h.ext.setCell hp u, h.dr⟩
theorem Extd.grow (h : Extd w w1) : ∃ (q : Nat) (os : Array Obj), w1 = Sort.grow (w.drewN q) os := by
  obtain ⟨⟨h1, h2, h3, h4, h5⟩, h6⟩ := h
  refine ⟨w1.drawn - w.drawn, w1.heap.extract w.heap.size w1.heap.size, ?_⟩
  have hh : w1.heap = w.heap ++ w1.heap.extract w.heap.size w1.heap.size := by
    apply Array.ext_getElem?
    intro i
    by_cases hi : i < w.heap.size
    · rw [Array.getElem?_append_left hi]
      exact h5 i hi
    · rw [Array.getElem?_append_right (by omega), Array.getElem?_extract]
      by_cases hi2 : i < w1.heap.size
      · rw [if_pos (by omega), show w.heap.size + (i - w.heap.size) = i by omega]
      · rw [if_neg (by omega), Array.getElem?_eq_none (by omega)]
  unfold Sort.grow World.drewN
  dsimp only
  rw [← hh, ← h1, ← h2, ← h3, show w.drawn + (w1.drawn - w.drawn) = w1.drawn by omega]
end
/-- a world that is greater than W and has drawn no less -/
structure EWd (W : World) where
  w : World
  exd : Extd W w
theorem EWd.ext {W : World} (x : EWd W) : Ext W x.w := x.exd.ext
instance ewdInh (W : World) : Nonempty (EWd W) := ⟨⟨W, Extd.refl W⟩⟩
theorem EWd.calls {P : Program} {W : World} {f : FuncId} {args : Array Value} {v : Value} (x : EWd W) (h : Calls P f args x.w fun e w' => e = .returned v ∧ Extd x.w w') :
    Calls P f args x.w fun e w'' => e = .returned v ∧ ∃ y : EWd W, w'' = y.w :=
  h.mono fun _ w' ⟨he, hx⟩ => ⟨he, ⟨w', x.exd.trans hx⟩, rfl⟩
end Go.Proofs.YtajbhfmdmajpmaaGreatDoor

/-! StbL -/
namespace Go.Proofs.YtajbhfmdmajpmaaGreatDoor
set_option linter.unusedVariables false
set_option linter.unusedSimpArgs false
open Go.Shelf Go.RowKit Go.Lib Go.Sort
section
variable {α : Type} [Inhabited α]
theorem arr_get {d : Array α} {i : Nat} (h : i < d.size) : d.toList[i]? = some d[i]! := by
  rw [Array.getElem?_toList, getElem!_pos d i h, Array.getElem?_eq_getElem h]
end
end Go.Proofs.YtajbhfmdmajpmaaGreatDoor

/-! StbB -/
namespace Go.Proofs.YtajbhfmdmajpmaaGreatDoor
set_option linter.unusedVariables false
set_option linter.unusedSimpArgs false
open Go.Shelf Go.RowKit Go.Lib Go.Sort
variable {P : Program} {k : Nat} {α : Type} [Inhabited α]
end Go.Proofs.YtajbhfmdmajpmaaGreatDoor

/-! StbA -/
namespace Go.Proofs.YtajbhfmdmajpmaaGreatDoor
set_option linter.unusedVariables false
set_option linter.unusedSimpArgs false
open Go.Shelf Go.RowKit Go.Lib Go.Sort
variable {P : Program} {k : Nat} {α : Type} [Inhabited α]
end Go.Proofs.YtajbhfmdmajpmaaGreatDoor

/-! StbC -/
namespace Go.Proofs.YtajbhfmdmajpmaaGreatDoor
set_option linter.unusedVariables false
set_option linter.unusedSimpArgs false
open Go.Shelf Go.RowKit Go.Lib Go.Sort
section
variable {α : Type}
end
variable {P : Program} {k : Nat} {α : Type} [Inhabited α]
end Go.Proofs.YtajbhfmdmajpmaaGreatDoor

/-! StbD -/
namespace Go.Proofs.YtajbhfmdmajpmaaGreatDoor
set_option linter.unusedVariables false
set_option linter.unusedSimpArgs false
open Go.Shelf Go.RowKit Go.Lib Go.Sort
variable {P : Program} {k : Nat} {α : Type} [Inhabited α]
end Go.Proofs.YtajbhfmdmajpmaaGreatDoor

/-! StbE -/
namespace Go.Proofs.YtajbhfmdmajpmaaGreatDoor
set_option linter.unusedVariables false
set_option linter.unusedSimpArgs false
open Go.Shelf Go.RowKit Go.Lib Go.Sort
variable {P : Program} {k : Nat} {α : Type} [Inhabited α]
end Go.Proofs.YtajbhfmdmajpmaaGreatDoor

/-! SlCl -/
namespace Go.Proofs.YtajbhfmdmajpmaaGreatDoor
set_option linter.unusedVariables false
set_option linter.unusedSimpArgs false
open Go.RowKit
def CloneRegsPost (l : List Reg) (n : Nat) (w : World) (e : Ending) (w' : World) : Prop :=
  ∃ A c, e = .returned (.slice A n c) ∧ w'.ownsRow w.heap.size 125 7 (.slice A n c) n (l.flatMap Reg.vals) ∧ Ext w w'
def CloneComsPost (l : List Com) (n : Nat) (w : World) (e : Ending) (w' : World) : Prop :=
  ∃ A c, e = .returned (.slice A n c) ∧ w'.ownsRow w.heap.size 139 8 (.slice A n c) n (l.flatMap Com.vals) ∧ Ext w w'
def CloneEHsPost (l : List EH) (n : Nat) (w : World) (e : Ending) (w' : World) : Prop :=
  ∃ A c, e = .returned (.slice A n c) ∧ w'.ownsRow w.heap.size 53 7 (.slice A n c) n (l.flatMap EH.vals) ∧ Ext w w'
theorem RegsAt.vals {w : World} {A : Option Addr} {n : Nat} {l : List Reg} (h : RegsAt w A n l) : Sl w 7 (Cells Reg.vals) A n l := Sl.change h fun _ _ _ => cells_regC
end Go.Proofs.YtajbhfmdmajpmaaGreatDoor

/-! DocCl -/
namespace Go.Proofs.YtajbhfmdmajpmaaGreatDoor
set_option linter.unusedVariables false
set_option linter.unusedSimpArgs false
open Go.RowKit
/-- a document's cells, its three slices given -/
def Doc.cells3 (d : Doc) (r e c : Value) : Array Value := #[.string d.title, .string d.lang, .int .u8 d.rate, .bool d.drop, .int .i64 d.last, r, e, c]
def docZero : Array Value := #[.string ⟨#[]⟩, .string ⟨#[]⟩, .int .u8 0, .bool false, .int .i64 0, .slice none 0 0, .slice none 0 0, .slice none 0 0]
def clCells (d : Doc) (h : DocH) : List Value → Array Value
  | [u0, _, _] => d.cells3 u0 (.slice h.ea h.en h.ec) (.slice h.ca h.cn h.cc)
  | [u0, u1, _, _] => d.cells3 u0 (.slice h.ea h.en h.ec) u1
  | _ => d.cells h
structure ClJ (d : Doc) (h : DocH) (w W0 : World) (us : List Value) (w' : World) : Prop where
  ext : Ext w w'
  blk : Blk w' w.heap.size 27 (clCells d h us)
  zero : Blk w' (w.heap.size + 1) 27 docZero
  regs : ∀ u, us[0]? = some u → ∃ A c, u = .slice A h.rn c ∧ w'.ownsRow w.heap.size 125 7 u h.rn (d.regs.flatMap Reg.vals)
  coms : ∀ u, us[1]? = some u → ∃ A c, u = .slice A h.cn c ∧ w'.ownsRow w.heap.size 139 8 u h.cn (d.coms.flatMap Com.vals)
theorem ClJ.put {d : Doc} {h : DocH} {w W0 w' : World} {us : List Value} (j : ClJ d h w W0 us w') (v : Value) (hv : us.length = 2 ∨ us.length = 3) : ClJ d h w W0 (us ++ [v]) (putB w' w.heap.size 27 (clCells d h (us ++ [v]))) := by
  refine ⟨j.ext.put (Nat.le_refl _) _ _, j.blk.put _, j.zero.put_other (by omega) _, fun u hu => ?_, fun u hu => ?_⟩
  · obtain ⟨A', c', h1, h2⟩ := j.regs u (by rw [← hu, List.getElem?_append_left (by omega)])
    exact ⟨A', c', h1, own_kb h2 (KB.put j.blk (by decide))⟩
  · obtain ⟨A', c', h1, h2⟩ := j.coms u (by rw [← hu, List.getElem?_append_left (by omega)])
    exact ⟨A', c', h1, own_kb h2 (KB.put j.blk (by decide))⟩
/-- one event is copied -/
structure CeJ (e : Ev) (g k n' : Nat) (w4 : World) (us : List Value) (w' : World) : Prop where
  nil : us = [] → Ext w4 w'
  one : ∀ u0, us = [u0] → ∃ A2 c2, u0 = .agg (e.cells A2 n' c2) ∧ n' ≤ c2 ∧ RowsFresh w' w4.heap.size A2 n' e.rows ∧ Ext w4 w'
  two : ∀ u0 u1, us = [u0, u1] → ∃ A2 c2 w5, u0 = .agg (e.cells A2 n' c2) ∧ n' ≤ c2 ∧ RowsFresh w5 w4.heap.size A2 n' e.rows ∧ Ext w4 w5 ∧ w' = w5.setCells g (k * 7) (e.cells A2 n' c2).toList
structure DClRel (d : Doc) (h : DocH) (w : World) (v0 : Value) (v1 : Value) (ea : Option Addr) (ec : Nat) (i : Value) (wr : World) : Prop where
  ext : Ext w wr
  blk : Blk wr w.heap.size 27 (d.cells3 v0 (.slice ea h.en ec) v1)
  zero : Blk wr (w.heap.size + 1) 27 docZero
  regs : wr.ownsRow w.heap.size 125 7 v0 h.rn (d.regs.flatMap Reg.vals)
  coms : wr.ownsRow w.heap.size 139 8 v1 h.cn (d.coms.flatMap Com.vals)
  more : ∃ (k : Nat) (hs : List EH), k ≤ h.en ∧ i = .int .i64 k ∧ hs.length = h.en ∧ wr.ownsRow w.heap.size 53 7 (.slice ea h.en ec) h.en (hs.flatMap EH.vals) ∧
    ∀ (j : Nat) (x : EH) (e : Ev), hs[j]? = some x → d.evs[j]? = some e → (j < k → EGood wr w.heap.size x e) ∧ (k ≤ j → ∃ A n c, x = EH.of e A n c ∧ EvAt w e A n c)
theorem DClRel.step {d : Doc} {h : DocH} {w wr w4 w5 : World} {v0 v1 : Value} {g ec k n' c2 : Nat} {A2 : Option Addr} {hs : List EH} {e : Ev} (hgw : w.heap.size ≤ g) (h1 : Ext w wr) (h2 : Blk wr w.heap.size 27 (d.cells3 v0 (.slice (some ⟨g, 0, none⟩) h.en ec) v1))
    (h3 : Blk wr (w.heap.size + 1) 27 docZero) (h4 : wr.ownsRow w.heap.size 125 7 v0 h.rn (d.regs.flatMap Reg.vals)) (h5 : wr.ownsRow w.heap.size 139 8 v1 h.cn (d.coms.flatMap Com.vals))
    (hk : k < h.en) (hl : hs.length = h.en) (h6 : wr.ownsRow w.heap.size 53 7 (.slice (some ⟨g, 0, none⟩) h.en ec) h.en (hs.flatMap EH.vals))
    (h7 : ∀ (j : Nat) (x : EH) (e : Ev), hs[j]? = some x → d.evs[j]? = some e → (j < k → EGood wr w.heap.size x e) ∧ (k ≤ j → ∃ A n c, x = EH.of e A n c ∧ EvAt w e A n c))
    (he : d.evs[k]? = some e) (h8 : Ext wr w5) (hw4 : wr.heap.size ≤ w4.heap.size) (hnc : n' ≤ c2) (hn24 : n' * 24 ≤ 140737488355328) (hf : RowsFresh w5 w4.heap.size A2 n' e.rows) :
    DClRel d h w v0 v1 (some ⟨g, 0, none⟩) ec (.int .i64 ((k : Int) + 1)) (w5.setCells g (k * 7) (e.cells A2 n' c2).toList) := by
  have hty : Typed w5 53 g := (own_typed h6 g rfl).ext h8
  have kb : ∀ {T : TypeId}, T ≠ 53 → KB T w5 (w5.setCells g (k * 7) (e.cells A2 n' c2).toList) := fun hne => KB.sets hne _ _ _ hty
  have hB : ∀ {b : Nat} {cs : Array Value}, Blk wr b 27 cs → Blk (w5.setCells g (k * 7) (e.cells A2 n' c2).toList) b 27 cs := fun hb => kb (by decide) _ _ (hb.ext h8)
  refine ⟨ext_sets hgw _ _ _ (h1.trans h8), hB h2, hB h3, own_kb (own_ext h4 h8) (kb (by decide)), own_kb (own_ext h5 h8) (kb (by decide)), k + 1, hs.set k (EH.of e A2 n' c2), by omega, by simp, by simpa using hl, ?_, fun j x y hx hy => ?_⟩
  · rw [← flat_setMany EH.len hs k (EH.of e A2 n' c2) (by omega)]
    exact own_sets _ _ _ _ (own_ext h6 h8)
  · by_cases hkj : k = j
    · subst hkj
      rw [List.getElem?_set_self (by omega)] at hx
      cases hx
      rw [he] at hy
      cases hy
      exact ⟨fun _ => EGood.kb (w := w5) ⟨rfl, hnc, hn24, hf.le (by have := h1.size; omega)⟩ (kb (by decide)) (kb (by decide)), fun hh => by omega⟩
    · rw [List.getElem?_set_ne hkj] at hx
      obtain ⟨a1, a2⟩ := h7 j x y hx hy
      exact ⟨fun hh => ((a1 (by omega)).ext h8).kb (kb (by decide)) (kb (by decide)), fun hh => a2 (by omega)⟩
/-- what a copy of a document comes to -/
def DClPost (d : Doc) (w : World) (en : Ending) (w' : World) : Prop := ∃ h', en = .returned (.agg (d.cells h')) ∧ DocOwn w' w.heap.size d h' ∧ Ext w w'
theorem size_docI : (Tryz.prog.info? 27).map (·.size) = some 8 := by kernel_rfl
end Go.Proofs.YtajbhfmdmajpmaaGreatDoor

/-! SrtW -/
namespace Go.Proofs.YtajbhfmdmajpmaaGreatDoor
set_option linter.unusedVariables false
set_option linter.unusedSimpArgs false
open Go.Shelf Go.RowKit Go.Lib Go.Sort
section
variable {α : Type} [Inhabited α] {enc : α → List Value} {k : Nat}
theorem flatK_list (hk : ∀ x, (enc x).length = k) (d : Array α) : (flatK enc k d).toList = d.toList.flatMap enc := by
  have hl : (d.toList.flatMap enc).length = d.size * k := by rw [flatMap_len enc k hk, Array.length_toList]
  apply List.ext_getElem?
  intro t
  by_cases ht : t < d.size * k
  · have hk0 : 0 < k := by
      cases k with
      | zero => omega
      | succ k => omega
    have hq : t / k < d.size := Nat.div_lt_of_lt_mul (by rwa [Nat.mul_comm])
    have hr : t % k < k := Nat.mod_lt _ hk0
    have h1 := flatMap_at enc k hk d.toList (t / k) d[t / k]! (t % k) (arr_get hq) hr
    rw [Nat.div_add_mod' t k] at h1
    rw [h1, arr_get (by rw [size_flatK]; exact ht), get_flatK enc k d t ht, List.getElem?_eq_getElem (by rw [hk]; exact hr), getElem!_pos _ _ (by rw [hk]; exact hr)]
  · rw [List.getElem?_eq_none (by rw [Array.length_toList, size_flatK]; omega), List.getElem?_eq_none (by omega)]
variable {w W : World} {L g n c : Nat} {T : TypeId} {l : List α}
theorem own_holds (hk : ∀ x, (enc x).length = k) (h : w.ownsRow L T k (.slice (some ⟨g, 0, none⟩) n c) n (l.flatMap enc)) (hl : l.length = n) : HoldsK enc k w g 0 l.toArray := by
  intro j hj
  rw [size_flatK] at hj
  have hj' : j < n * k := by simpa [hl] using hj
  have h1 := h.cellAt j hj'
  have h2 : (flatK enc k l.toArray).toList[j]? = some (flatK enc k l.toArray)[j]! := arr_get (by rw [size_flatK]; exact hj)
  rw [flatK_list hk] at h2
  refine ⟨by rw [Nat.zero_add, h1]; exact h2, ?_⟩
  rcases h.2 with ⟨hv, hn⟩ | ⟨g', cap, cur, hv, hg, hb, -⟩
  · cases hv
  · cases hv
    simp [World.frozen?, hb]
theorem swk_heap {m : Nat} {os : Array Obj} {cur : Array Value} {e : TypeId} {fr : Nat × Nat} (d : Array α) (hb : w.heap[g]? = some (.cells cur e fr)) :
    (sortWorldK enc k w g 0 m d os).heap[g]? = some (.cells (putCells id 0 (flatK enc k d) cur) e fr) := by
  have hg : g < w.heap.size := (Array.getElem?_eq_some_iff.1 hb).1
  unfold sortWorldK
  rw [heap_grow_old _ _ (by rw [size_putRowK]; exact hg)]
  simp [putRowK, putRow, mapBlock, Sort.ahead, Array.getElem?_modify, hb, onCells]
theorem swk_grown (h : SWK enc k w g 0 l.toArray W) : w.grownBy W (some g) := by
  obtain ⟨m, os, rfl⟩ := h
  refine ⟨rfl, rfl, rfl, by unfold sortWorldK; rw [size_grow, size_putRowK]; exact Nat.le_add_right _ _, fun q hq hne => ?_⟩
  unfold sortWorldK
  rw [heap_grow_old _ _ (by rw [size_putRowK]; exact hq)]
  have : g ≠ q := fun e => hne (by rw [e])
  simp [putRowK, putRow, mapBlock, Sort.ahead, Array.getElem?_modify, this]
theorem take_putF (cur : Array Value) (F : Array Value) (h : F.size ≤ cur.size) : (putCells id 0 F cur).toList.take F.size = F.toList := by
  apply List.ext_getElem?
  intro j
  by_cases hj : j < F.size
  · rw [List.getElem?_take_of_lt hj, Array.getElem?_toList]
    simp [putCells, hj, show j < cur.size by omega]
  · rw [List.getElem?_take_eq_none (by omega), List.getElem?_eq_none (by simp; omega)]
/-- behind the sort the same slice owns what the sort has left there -/
theorem swk_own (hk : ∀ x, (enc x).length = k) {xs : List Value} (h : w.ownsRow L T k (.slice (some ⟨g, 0, none⟩) n c) n xs) (hS : SWK enc k w g 0 l.toArray W) (hl : l.length = n) : W.ownsRow L T k (.slice (some ⟨g, 0, none⟩) n c) n (l.flatMap enc) := by
  refine ⟨by rw [flatMap_len enc k hk, hl], ?_⟩
  rcases h.2 with ⟨hv, hn⟩ | ⟨g', cap, cur, hv, hg, hb, hnc, hcm, hcs, ht⟩
  · cases hv
  · cases hv
    obtain ⟨m, os, rfl⟩ := hS
    refine .inr ⟨g, c, _, rfl, hg, swk_heap _ hb, hnc, hcm, by simp [putCells, hcs], ?_⟩
    have h1 := take_putF cur (flatK enc k l.toArray) (by rw [size_flatK]; simp [hl, hcs]; exact Nat.mul_le_mul_right _ hnc)
    rw [flatK_list hk, size_flatK] at h1
    simpa [hl] using h1
end
theorem insS_congr {α : Type} {lt lt' : α → α → Bool} (x : α) : ∀ (l : List α), (∀ y ∈ l, lt x y = lt' x y ∧ lt y x = lt' y x) → Stb.insS lt x l = Stb.insS lt' x l
  | [], _ => rfl
  | y :: l, h => by
    have h1 := h y (by simp)
    unfold Stb.insS
    rw [h1.1, insS_congr x l (fun z hz => h z (by simp [hz]))]
theorem sortS_congr {α : Type} {lt lt' : α → α → Bool} {l : List α} (h : ∀ p q, p ∈ l → q ∈ l → lt p q = lt' p q) : Stb.sortS lt l = Stb.sortS lt' l := by
  have key : ∀ (l acc : List α), (∀ p q, (p ∈ l ∨ p ∈ acc) → (q ∈ l ∨ q ∈ acc) → lt p q = lt' p q) → l.foldl (fun acc x => Stb.insS lt x acc) acc = l.foldl (fun acc x => Stb.insS lt' x acc) acc := by
    intro l
    induction l with
    | nil => intro acc _; rfl
    | cons x l ih =>
      intro acc h
      simp only [List.foldl_cons]
      rw [insS_congr x acc (fun y hy => ⟨h x y (.inl (by simp)) (.inr hy), h y x (.inr hy) (.inl (by simp))⟩)]
      refine ih _ (fun p q hp hq => h p q ?_ ?_)
      · rcases hp with hp | hp
        · exact .inl (by simp [hp])
        · rcases (Stb.insS_mem x acc p).1 hp with rfl | hp
          · exact .inl (by simp)
          · exact .inr hp
      · rcases hq with hq | hq
        · exact .inl (by simp [hq])
        · rcases (Stb.insS_mem x acc q).1 hq with rfl | hq
          · exact .inl (by simp)
          · exact .inr hq
  exact key l [] (fun p q hp hq => h p q (by simpa using hp) (by simpa using hq))
instance : Inhabited EH := ⟨⟨0, 0, 0, ⟨#[]⟩, 0, ⟨#[]⟩, none, 0, 0⟩⟩
def cmpH (x y : EH) : Int := orI (cmpI x.inn y.inn) (cmpI x.id y.id)
def ltH (x y : EH) : Bool := decide (x.inn < y.inn ∨ x.inn = y.inn ∧ x.id < y.id)
/-- what Sort comes to -/
def srtE (l : List Ev) : List Ev := Stb.sortS lessB l
theorem EvsOwn.sorted {w W : World} {L g n c : Nat} {l : List Ev} {hs hs' : List EH} (h1 : w.ownsRow L 53 7 (.slice (some ⟨g, 0, none⟩) n c) n (hs.flatMap EH.vals)) (h2 : hs.length = n) (h3 : l.length = n) (h4 : ∀ (i : Nat) (h : EH) (e : Ev), hs[i]? = some h → l[i]? = some e → EGood w L h e)
    (hS : SWK EH.vals 7 w g 0 hs'.toArray W) (hh : hs' = Stb.sortS ltH hs) : EvsOwn W L (.slice (some ⟨g, 0, none⟩) n c) n (srtE l) := by
  have hgr := swk_grown hS
  have hty := own_typed h1
  have k1 : KB 107 w W := KB.grown hgr hty (by decide)
  have k2 : KB 104 w W := KB.grown hgr hty (by decide)
  have hl' : hs'.length = n := by rw [hh, Stb.sortS_len, h2]
  refine ⟨hs', swk_own EH.len h1 hS hl', hl', by unfold srtE; rw [Stb.sortS_len, h3], fun i x e hx he => ?_⟩
  -- pairs
  have hz1 : (hs.zip l).map Prod.fst = hs := List.map_fst_zip (by omega)
  have hz2 : (hs.zip l).map Prod.snd = l := List.map_snd_zip (by omega)
  have hg : ∀ p ∈ hs.zip l, EGood w L p.1 p.2 := by
    intro p hp
    obtain ⟨j, hj⟩ := List.mem_iff_getElem?.1 hp
    have hj1 : ((hs.zip l).map Prod.fst)[j]? = some p.1 := by rw [List.getElem?_map, hj]; rfl
    have hj2 : ((hs.zip l).map Prod.snd)[j]? = some p.2 := by rw [List.getElem?_map, hj]; rfl
    rw [hz1] at hj1
    rw [hz2] at hj2
    exact h4 j _ _ hj1 hj2
  have hs1 : (Stb.sortS (fun p q : EH × Ev => ltH p.1 q.1) (hs.zip l)).map Prod.fst = hs' := by rw [Stb.sortS_map (lt' := ltH) (fun x y => rfl), hz1, hh]
  have hs2 : Stb.sortS (fun p q : EH × Ev => ltH p.1 q.1) (hs.zip l) = Stb.sortS (fun p q : EH × Ev => lessB p.2 q.2) (hs.zip l) := by
    refine sortS_congr (fun p q hp hq => ?_)
    have e1 := (hg p hp).1
    have e2 := (hg q hq).1
    unfold ltH lessB
    rw [e1, e2]
    rfl
  have hs3 : (Stb.sortS (fun p q : EH × Ev => ltH p.1 q.1) (hs.zip l)).map Prod.snd = srtE l := by rw [hs2, Stb.sortS_map (lt' := lessB) (fun x y => rfl), hz2]; rfl
  rw [← hs1, List.getElem?_map] at hx
  rw [← hs3, List.getElem?_map] at he
  obtain ⟨p, hp, rfl⟩ := Option.map_eq_some_iff.1 hx
  rw [hp] at he
  obtain rfl := Option.some.inj he
  exact (hg p ((Stb.sortS_mem _ _).1 (List.mem_of_getElem? hp))).kb k1 k2
end Go.Proofs.YtajbhfmdmajpmaaGreatDoor

/-! OvS -/
namespace Go.Proofs.YtajbhfmdmajpmaaGreatDoor
set_option linter.unusedVariables false
set_option linter.unusedSimpArgs false
open Go.RowKit Go.Shelf Go.Sort
abbrev OvF := Fin 1000001 × Fin 1000001 × Int × Int
def OvF.vals (x : OvF) : List Value := [.int .i64 (x.1.val : Int), .int .i64 (x.2.1.val : Int), .int .i64 x.2.2.1, .int .i64 x.2.2.2]
def OvF.ov (x : OvF) : Ov := ⟨(x.1.val : Int), (x.2.1.val : Int), x.2.2.1, x.2.2.2⟩
def Ov.vals (o : Ov) : List Value := [.int .i64 o.a, .int .i64 o.b, .int .i64 o.inn, .int .i64 o.out]
theorem ovs_vals (l : List OvF) : (l.map OvF.ov).flatMap Ov.vals = l.flatMap OvF.vals := by rw [List.flatMap_map]; rfl
def Ov.toF (o : Ov) : OvF := (⟨min o.a.toNat 1000000, by omega⟩, ⟨min o.b.toNat 1000000, by omega⟩, o.inn, o.out)
theorem Ov.toF_ov {o : Ov} (h1 : 0 ≤ o.a ∧ o.a ≤ 1000000) (h2 : 0 ≤ o.b ∧ o.b ≤ 1000000) : o.toF.ov = o := by
  obtain ⟨a, b, i, e⟩ := o
  unfold Ov.toF OvF.ov
  simp only at h1 h2 ⊢
  congr 1 <;> omega
theorem ovs_toF {l : List Ov} (h : ∀ o ∈ l, (0 ≤ o.a ∧ o.a ≤ 1000000) ∧ (0 ≤ o.b ∧ o.b ≤ 1000000)) : (l.map Ov.toF).map OvF.ov = l := by
  rw [List.map_map]
  conv => rhs; rw [← List.map_id l]
  exact List.map_congr_left fun o ho => Ov.toF_ov (h o ho).1 (h o ho).2
def cmpO (x y : OvF) : Int := if x.1 = y.1 then (x.2.1.val : Int) - y.2.1.val else (x.1.val : Int) - y.1.val
def ltO (x y : OvF) : Bool := decide (x.1.val < y.1.val ∨ x.1.val = y.1.val ∧ x.2.1.val < y.2.1.val)
theorem ltOf_cmpO (x y : OvF) : ltOf cmpO x y = ltO x y := by
  unfold ltOf cmpO ltO
  apply decide_eq_decide.2
  by_cases h : x.1 = y.1
  · have h2 : x.1.val = y.1.val := congrArg Fin.val h
    rw [if_pos h]; omega
  · have h2 : ¬ x.1.val = y.1.val := fun e => h (Fin.ext e)
    rw [if_neg h]; omega
theorem ltOf_O : ltOf cmpO = ltO := by funext x y; exact ltOf_cmpO x y
theorem ltO_swo : SWO ltO where
  irrefl x := by unfold ltO; simp
  trans x y z h1 h2 := by unfold ltO at *; simp only [decide_eq_true_eq] at *; omega
  ntrans x y z h1 h2 := by unfold ltO at *; simp only [decide_eq_false_iff_not] at *; omega
theorem ovf_ones (x : OvF) : ∀ v ∈ x.vals, v.oneCell' = true := by
  intro v hv
  simp only [OvF.vals, List.mem_cons, List.not_mem_nil, or_false] at hv
  rcases hv with rfl | rfl | rfl | rfl <;> rfl
theorem cmpO_enter : ∀ args w, (callFunc 44 args).run Tryz.prog w = .ok (.enter 44 args) w := Go.Proofs.enters_of Tryz.func44 (by kernel_rfl) rfl
set_option maxRecDepth 100000 in
set_option maxHeartbeats 1000000 in
theorem cmpO_nat (a b a' b' : Nat) (i o i' o' : Int) (w : World) (h1 : a < 1000001) (h2 : b < 1000001) (h3 : a' < 1000001) (h4 : b' < 1000001) :
    Calls Tryz.prog 44 #[.agg #[.int .i64 a, .int .i64 b, .int .i64 i, .int .i64 o], .agg #[.int .i64 a', .int .i64 b', .int .i64 i', .int .i64 o']] w fun e w' => e = .returned (.int .i64 (if a = a' then (b : Int) - b' else (a : Int) - a')) ∧ Extd w w' := by
  have HX := Lib.hid (((Extd.refl w).alloc (.cells #[.int .i64 a, .int .i64 b, .int .i64 i, .int .i64 o] 46)).alloc (.cells #[.int .i64 a', .int .i64 b', .int .i64 i', .int .i64 o'] 46))
  have HW1 := Lib.hid (wrap_i64 (a := (b : Int) - b') (by omega) (by omega))
  have HW2 := Lib.hid (wrap_i64 (a := (a : Int) - a') (by omega) (by omega))
  by_cases h : a = a'
  · subst h
    have HE : Hid ((if a = a then (b : Int) - b' else (a : Int) - a) = (b : Int) - b') := if_pos rfl
    go_enter Tryz.func44, Tryz.ntmps44
    go_wp2_with fail
    go_ret
    exact ⟨rfl, HX.out⟩
  · have HE : Hid ((if a = a' then (b : Int) - b' else (a : Int) - a') = (a : Int) - a') := if_neg h
    have hb : ((a : Int) != a') = true := by simp; omega
    go_enter Tryz.func44, Tryz.ntmps44
    go_wp2_with fail
    go_ret
    exact ⟨rfl, HX.out⟩
theorem cmpO_any (x y : OvF) (w : World) : Calls Tryz.prog 44 #[.agg x.vals.toArray, .agg y.vals.toArray] w fun e w' => e = .returned (.int .i64 (cmpO x y)) ∧ Extd w w' := by
  have h := cmpO_nat x.1.val x.2.1.val y.1.val y.2.1.val x.2.2.1 x.2.2.2 y.2.2.1 y.2.2.2 w x.1.isLt x.2.1.isLt y.1.isLt y.2.1.isLt
  have e : cmpO x y = if x.1.val = y.1.val then (x.2.1.val : Int) - y.2.1.val else (x.1.val : Int) - y.1.val := by unfold cmpO; simp only [Fin.ext_iff]
  rw [e]
  exact h
theorem arr_sortedO {d : Array OvF} (h : SortedIn ltO 0 d.size d) : d.toList.Pairwise fun x y => ltO y x = false := by
  refine List.pairwise_iff_getElem.2 fun i j hi hj hij => ?_
  have hi' : i < d.size := by simpa using hi
  have hj' : j < d.size := by simpa using hj
  have := h i j (Nat.zero_le _) hij hj'
  rw [getElem!_pos d j hj', getElem!_pos d i hi'] at this
  simpa using this
theorem SortNoneO (F : Value) (w : World) : Calls Tryz.prog 43 #[.slice none 0 0, F] w fun e w' => e = .returned (.tuple #[]) ∧ w' = w := AnyF.slices_SortFunc_none Tryz.srtOv none 0 F w
theorem SortO_own {w0 w : World} {L g n c : Nat} {l : List OvF} (hx : Ext w0 w) (hL : w0.heap.size ≤ L) (h1 : w.ownsRow L 46 4 (.slice (some ⟨g, 0, none⟩) n c) n (l.flatMap OvF.vals)) (hl : l.length = n) (hn : n < 4611686018427387904) :
    Calls Tryz.prog 43 #[.slice (some ⟨g, 0, none⟩) n c, .func (.func 44) #[] #[]] w fun e w' => e = .returned (.tuple #[]) ∧ Ext w0 w' ∧ ∃ l' : List OvF, l'.Perm l ∧ (l'.Pairwise fun x y => ltO y x = false) ∧ w'.ownsRow L 46 4 (.slice (some ⟨g, 0, none⟩) n c) n (l'.flatMap OvF.vals) := by
  have hLg : L ≤ g := own_lt h1 g rfl
  have hg : g < w.heap.size := by
    rcases h1.2 with ⟨hv, -⟩ | ⟨g', cap, cur, hv, -, hb, -⟩
    · cases hv
    · cases hv; exact (Array.getElem?_eq_some_iff.1 hb).1
  have hz : l.toArray.size = n := by simp [hl]
  have hH := own_holds (enc := OvF.vals) (k := 4) (fun _ => rfl) h1 hl
  have hcmp : CmpLays Tryz.prog 44 #[] OvF.vals 4 cmpO g 0 l.toArray.size w := fun m os dk hs x y => (cmpO_any x y _).mono fun e w' ⟨he, hx⟩ => ⟨he, hx.grow⟩
  have hcon := AnyQ.slices_SortFunc Tryz.srtOv 4 Tryz.isAgg46 Tryz.sizeOf46 OvF.vals (fun _ => rfl) ovf_ones cmpO (by rw [ltOf_O]; exact ltO_swo) 44 #[] g 0 c l.toArray w cmpO_enter hcmp hH hg (by rw [hz]; exact hn)
  rw [hz, ltOf_O] at hcon
  refine Calls.mono hcon ?_
  rintro e w' ⟨rfl, d', m, os, hp, hs, rfl⟩
  obtain ⟨hsz, -, hperm⟩ := hp
  have hd : d'.size = n := by rw [hsz, hz]
  have e1 : d'.extract 0 n = d' := by rw [← hd]; exact Array.extract_size
  have e2 : l.toArray.extract 0 n = l.toArray := by rw [← hz]; exact Array.extract_size
  rw [e1, e2] at hperm
  have hS : SWK OvF.vals 4 w g 0 d'.toList.toArray (sortWorldK OvF.vals 4 w g 0 m d' os) := ⟨m, os, by simp⟩
  have hO := swk_own (enc := OvF.vals) (fun _ => rfl) h1 hS (by simpa using hd)
  exact ⟨rfl, hx.grown (swk_grown (enc := OvF.vals) (k := 4) (g := g) (l := d'.toList) ⟨m, os, by simp⟩) (fun q hq => by cases hq; omega), d'.toList, by simpa using hperm, arr_sortedO (by rw [hd]; exact hs), hO⟩
end Go.Proofs.YtajbhfmdmajpmaaGreatDoor

/-! OvM -/
namespace Go.Proofs.YtajbhfmdmajpmaaGreatDoor
set_option linter.unusedVariables false
set_option linter.unusedSimpArgs false
open Go.RowKit
/-- a set of cells lies at a place -/
def SetC (w : World) (b o : Nat) (s : List Bool) : Prop := s.length = 480 ∧ ∀ i x, s[i]? = some x → w.cell? ⟨b, o + i, none⟩ = some (.bool x)
theorem SetC.ext {w w1 : World} {b o : Nat} {s : List Bool} (h : SetC w b o s) (k : Ext w w1) : SetC w1 b o s := ⟨h.1, fun i x hx => k.cell (h.2 i x hx)⟩
theorem meet_to {l1 l2 : List Bool} {k : Nat} {x y : Bool} (h1 : l1[k]? = some x) (h2 : l2[k]? = some y) : meetS (l1.take (k + 1)) (l2.take (k + 1)) = (meetS (l1.take k) (l2.take k) || (x && y)) := by
  unfold meetS
  rw [take_snoc' l1 k x h1, take_snoc' l2 k y h2]
  have e1 := (List.getElem?_eq_some_iff.1 h1).1
  have e2 := (List.getElem?_eq_some_iff.1 h2).1
  rw [List.zip_append (by rw [List.length_take, List.length_take]; omega), List.any_append]
  simp
theorem meet_mono {l1 l2 : List Bool} {k : Nat} (h : meetS (l1.take k) (l2.take k) = true) : meetS l1 l2 = true := by
  unfold meetS at *
  rw [List.any_eq_true] at *
  obtain ⟨p, hp, hq⟩ := h
  refine ⟨p, ?_, hq⟩
  obtain ⟨i, hi⟩ := List.mem_iff_getElem?.1 hp
  rw [List.getElem?_zip_eq_some] at hi
  have e : ∀ (l : List Bool) (x : Bool), (l.take k)[i]? = some x → l[i]? = some x := fun l x h => by
    rw [List.getElem?_take] at h
    split at h
    · exact h
    · cases h
  exact List.mem_iff_getElem?.2 ⟨i, by rw [List.getElem?_zip_eq_some]; exact ⟨e _ _ hi.1, e _ _ hi.2⟩⟩
set_option maxRecDepth 100000 in
set_option maxHeartbeats 2000000 in
theorem Meet_any (ga oa gb ob : Nat) (l1 l2 : List Bool) (w : World) (h1 : SetC w ga oa l1) (h2 : SetC w gb ob l2) :
    Calls Tryz.prog 42 #[.pointer (some ⟨ga, oa, none⟩), .pointer (some ⟨gb, ob, none⟩)] w fun e w' => e = .returned (.bool (meetS l1 l2)) ∧ Ext w w' := by
  have H1 := Lib.hid h1
  have H2 := Lib.hid h2
  clear h1 h2
  go_enter Tryz.func42, Tryz.ntmps42
  go_wp2_with fail
  go_loopw [8] (fun i wr => ∃ k : Nat, k ≤ 480 ∧ i = .int .i64 k ∧ Ext w wr ∧ meetS (l1.take k) (l2.take k) = false) (fun i _ => 480 - (intOf i).toNat)
  case atStart => exact ⟨0, Nat.zero_le _, rfl, Ext.refl _, rfl⟩
  case round =>
    obtain ⟨k, hk, rfl, hx, hm⟩ := hrel
    have HX := Lib.hid hx
    have HM := Lib.hid hm
    clear hm hx
    by_cases hlt : k < 480
    · obtain ⟨x, hx1⟩ : ∃ x, l1[k]? = some x := ⟨_, List.getElem?_eq_getElem (by rw [H1.out.1]; exact hlt)⟩
      obtain ⟨y, hy1⟩ : ∃ y, l2[k]? = some y := ⟨_, List.getElem?_eq_getElem (by rw [H2.out.1]; exact hlt)⟩
      have HT := Lib.hid (meet_to hx1 hy1)
      have hc1 : wr.cell? ⟨ga, oa + k, none⟩ = some (.bool x) := HX.out.cell (H1.out.2 k x hx1)
      have hc2 := HX.out.cell (H2.out.2 k y hy1)
      clear hx1 hy1
      have hr1 := fun (z : EW wr) => z.ext.cell hc1
      go_upto_region 3 with fail
      refine wp_region_ew wr (Ext.refl _) (by kernel_rfl) (by kernel_rfl) ?_
      repeat (go_big_quiet_step (fail))
      refine wpQuiet_nil ?_
      rintro w5 ⟨⟨_, hx5⟩, rfl⟩
      try dsimp only
      have HX5 := Lib.hid (HX.out.trans hx5)
      have hc3 := hx5.cell hc2
      clear hr1 hc1 hc2 hx5
      cases x with
      | false =>
        go_wp2_with fail
        exact ⟨⟨k + 1, by omega, by go_num, HX5.out, by rw [HT.out, HM.out]; rfl⟩, by simp [intOf]; omega⟩
      | true =>
        cases y with
        | false =>
          go_wp2_with fail
          exact ⟨⟨k + 1, by omega, by go_num, HX5.out, by rw [HT.out, HM.out]; rfl⟩, by simp [intOf]; omega⟩
        | true =>
          go_wp2_with fail
          go_ret
          exact ⟨ret_bool (meet_mono (k := k + 1) (by rw [HT.out, HM.out]; rfl)).symm, HX5.out⟩
    · have hkk : k = 480 := by omega
      have HF : Hid (meetS l1 l2 = false) := by
        have := HM.out
        rw [hkk, List.take_of_length_le (by rw [H1.out.1]; exact Nat.le_refl _), List.take_of_length_le (by rw [H2.out.1]; exact Nat.le_refl _)] at this
        exact this
      go_wp2_with fail
      go_ret
      exact ⟨ret_bool HF.out.symm, HX.out⟩
end Go.Proofs.YtajbhfmdmajpmaaGreatDoor

/-! TwoJ -/
namespace Go.Proofs.YtajbhfmdmajpmaaGreatDoor
set_option linter.unusedVariables false
set_option linter.unusedSimpArgs false
open Go.RowKit
/-- two variables made and filled in a drawn region -/
structure TwoJ (T : TypeId) (p q m : Nat) (a b : Array Value) (W : World) (us : List Value) (gs : Nat → Option Nat) (w : World) : Prop where
  ext : Ext W w
  va : ∀ g, gs p = some g → W.heap.size ≤ g ∧ ∃ cs, cs.size = m ∧ Blk w g T cs ∧ (0 < us.length → cs = a)
  vb : ∀ g, gs q = some g → W.heap.size ≤ g ∧ ∃ cs, cs.size = m ∧ Blk w g T cs ∧ (1 < us.length → cs = b)
  ne : ∀ g g', gs p = some g → gs q = some g' → g ≠ g'
section
variable {T : TypeId} {p q m : Nat} {a b z : Array Value} {W w : World} {us : List Value} {gs : Nat → Option Nat}
theorem twoJ_start (W : World) : TwoJ T p q m a b W [] (fun _ => none) W.drew := ⟨(Ext.refl W).drew, fun g h => (by cases h), fun g h => (by cases h), fun g g' h => (by cases h)⟩
theorem twoJ_p (h : TwoJ T p q m a b W us gs w) (hpq : p ≠ q) (hz : z.size = m) (hl : us.length ≤ 0) : TwoJ T p q m a b W us (upd gs p w.heap.size) (w.alloc (.cells z T)) := by
  have hx : Ext w (w.alloc (.cells z T)) := (Ext.refl w).alloc _
  refine ⟨h.ext.trans hx, fun g hg => ?_, fun g hg => ?_, fun g g' hg hg' => ?_⟩
  · rw [upd_self] at hg
    obtain rfl : w.heap.size = g := Option.some.inj hg
    exact ⟨h.ext.size, z, hz, Blk.new w _ _, fun h' => absurd h' (by omega)⟩
  · rw [upd_other _ (Ne.symm hpq)] at hg
    obtain ⟨h1, cs, h2, h3, h4⟩ := h.vb g hg
    exact ⟨h1, cs, h2, h3.ext hx, h4⟩
  · rw [upd_self] at hg
    rw [upd_other _ (Ne.symm hpq)] at hg'
    obtain ⟨h1, cs, h2, h3, h4⟩ := h.vb g' hg'
    have := h3.lt
    have := Option.some.inj hg
    omega
theorem twoJ_q (h : TwoJ T p q m a b W us gs w) (hpq : p ≠ q) (hz : z.size = m) (hl : us.length ≤ 1) : TwoJ T p q m a b W us (upd gs q w.heap.size) (w.alloc (.cells z T)) := by
  have hx : Ext w (w.alloc (.cells z T)) := (Ext.refl w).alloc _
  refine ⟨h.ext.trans hx, fun g hg => ?_, fun g hg => ?_, fun g g' hg hg' => ?_⟩
  · rw [upd_other _ hpq] at hg
    obtain ⟨h1, cs, h2, h3, h4⟩ := h.va g hg
    exact ⟨h1, cs, h2, h3.ext hx, h4⟩
  · rw [upd_self] at hg
    obtain rfl : w.heap.size = g := Option.some.inj hg
    exact ⟨h.ext.size, z, hz, Blk.new w _ _, fun h' => absurd h' (by omega)⟩
  · rw [upd_self] at hg'
    rw [upd_other _ hpq] at hg
    obtain ⟨h1, cs, h2, h3, h4⟩ := h.va g hg
    have := h3.lt
    have := Option.some.inj hg'
    omega
theorem twoJ_a {v : Value} {ga : Nat} {cs : Array Value} (h : TwoJ T p q m a b W [] gs w) (hg4 : gs p = some ga) (ha : a.size = m) (hB : Blk w ga T cs) : TwoJ T p q m a b W ([] ++ [v]) gs (putB w ga T a) := by
  refine ⟨h.ext.put (h.va ga hg4).1 _ _, fun g hg => ?_, fun g hg => ?_, h.ne⟩
  · rw [hg4] at hg
    obtain rfl : ga = g := Option.some.inj hg
    exact ⟨(h.va ga hg4).1, _, ha, hB.put _, fun _ => rfl⟩
  · obtain ⟨h1, cs', h2, h3, _⟩ := h.vb g hg
    exact ⟨h1, cs', h2, h3.put_other (h.ne ga g hg4 hg) _, fun h' => by simp at h'⟩
theorem twoJ_b {u0 v : Value} {gb : Nat} {cs : Array Value} (h : TwoJ T p q m a b W [u0] gs w) (hg5 : gs q = some gb) (hb : b.size = m) (hB : Blk w gb T cs) : TwoJ T p q m a b W ([u0] ++ [v]) gs (putB w gb T b) := by
  refine ⟨h.ext.put (h.vb gb hg5).1 _ _, fun g hg => ?_, fun g hg => ?_, h.ne⟩
  · obtain ⟨h1, cs', h2, h3, h4⟩ := h.va g hg
    exact ⟨h1, cs', h2, h3.put_other (Ne.symm (h.ne g gb hg hg5)) _, fun _ => h4 (by simp)⟩
  · rw [hg5] at hg
    obtain rfl : gb = g := Option.some.inj hg
    exact ⟨(h.vb gb hg5).1, _, hb, hB.put _, fun _ => rfl⟩
theorem TwoJ.end_ {u0 u1 : Value} (h : TwoJ T p q m a b W [u0, u1] gs w) (hgs : ∀ j, (j = p ∨ j = q) → (gs j).isSome = true) : ∃ ga gb, gs p = some ga ∧ gs q = some gb ∧ W.heap.size ≤ ga ∧ W.heap.size ≤ gb ∧ ga ≠ gb ∧ Blk w ga T a ∧ Blk w gb T b := by
  obtain ⟨ga, hga⟩ := Option.isSome_iff_exists.1 (hgs p (.inl rfl))
  obtain ⟨gb, hgb⟩ := Option.isSome_iff_exists.1 (hgs q (.inr rfl))
  obtain ⟨h1, cs, _, h3, h4⟩ := h.va ga hga
  obtain ⟨k1, cs', _, k3, k4⟩ := h.vb gb hgb
  have e1 := h4 (by simp)
  have e2 := k4 (by simp)
  subst e1 e2
  exact ⟨ga, gb, hga, hgb, h1, k1, h.ne _ _ hga hgb, h3, k3⟩
end
end Go.Proofs.YtajbhfmdmajpmaaGreatDoor
