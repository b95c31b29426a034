/- Plain: how many different names a list of names has, by sorting and by inserting. No program in sight. -/
import Derived.Lib.SlicesCompact
import Derived.Lib.RowBridge
import Derived.Sort.KeysCollected
namespace Go.Proofs.YtffianmhojiomaaDoor
set_option linter.unusedVariables false
set_option linter.unusedSimpArgs false

abbrev Bs := List UInt8
def srt (ss : List Bs) : List Bs := ss.mergeSort fun x y => decide (x ≤ y)
/-- the number of different names -/
def cnt (ss : List Bs) : Nat := (Lib.compact (srt ss)).length

theorem Bs.lt_trans {a b c : Bs} (h1 : a < b) (h2 : b < c) : a < c := List.lt_trans h1 h2
theorem Bs.lt_irrefl (a : Bs) : ¬ a < a := List.lt_irrefl a
theorem Bs.le_of_lt {a b : Bs} (h : a < b) : a ≤ b := List.le_of_lt h
theorem Bs.lt_of_le_of_ne {a b : Bs} (h : a ≤ b) (hne : a ≠ b) : a < b := by
  rcases Classical.em (a < b) with h1 | h1
  · exact h1
  · exact absurd (List.le_antisymm h (List.not_lt.1 h1)) hne
theorem Bs.lt_of_le_of_lt {a b c : Bs} (h : a ≤ b) (h2 : b < c) : a < c := by
  rcases Classical.em (a = b) with h1 | h1
  · rw [h1]; exact h2
  · exact Bs.lt_trans (Bs.lt_of_le_of_ne h h1) h2
theorem Bs.le_refl (a : Bs) : a ≤ a := List.le_refl a
theorem Bs.le_trans {a b c : Bs} (h : a ≤ b) (h2 : b ≤ c) : a ≤ c := List.le_trans h h2

theorem srt_sorted (ss : List Bs) : (srt ss).Pairwise (· ≤ ·) := by
  have := List.pairwise_mergeSort (le := fun x y : Bs => decide (x ≤ y)) (fun a b c h1 h2 => by simp only [decide_eq_true_eq] at *; exact Bs.le_trans h1 h2) (fun a b => by simp only [Bool.or_eq_true, decide_eq_true_eq]; exact List.le_total a b) ss
  exact this.imp (fun h => by simpa using h)
theorem mem_srt (ss : List Bs) (x : Bs) : x ∈ srt ss ↔ x ∈ ss := List.mem_mergeSort
theorem len_srt (ss : List Bs) : (srt ss).length = ss.length := List.length_mergeSort ss

theorem compact_step (zs : List Bs) (hs : zs.Pairwise (· ≤ ·)) : ∀ m, m ≤ zs.length → (Lib.compactUpTo zs.toArray m).Pairwise (· < ·) ∧ ∀ x, x ∈ Lib.compactUpTo zs.toArray m ↔ ∃ j, j < m ∧ zs[j]? = some x
  | 0, _ => ⟨by simp [Lib.compactUpTo], fun x => by simp [Lib.compactUpTo]⟩
  | m + 1, hm => by
    obtain ⟨h1, h2⟩ := compact_step zs hs m (by omega)
    have hlt : m < zs.length := by omega
    have hget : zs.toArray[m]! = zs[m] := by simp [hlt]
    rw [Lib.compactUpTo_succ]
    by_cases hk : Lib.keeps zs.toArray m = true
    · rw [if_pos hk, hget]
      refine ⟨?_, fun x => ?_⟩
      · rw [List.pairwise_append]
        refine ⟨h1, by simp, fun a ha b hb => ?_⟩
        simp only [List.mem_singleton] at hb
        subst hb
        obtain ⟨j, hj, hja⟩ := (h2 a).1 ha
        have hm0 : m ≠ 0 := by omega
        have hne : zs[m] ≠ zs[m - 1] := by
          have := hk
          simp [Lib.keeps, hm0, hlt, show m - 1 < zs.length by omega] at this
          exact this
        have hjl : j < zs.length := by omega
        have hja' : zs[j] = a := by rw [List.getElem?_eq_getElem hjl] at hja; exact Option.some.inj hja
        have hpw := List.pairwise_iff_getElem.1 hs
        have h3 : a ≤ zs[m - 1] := by
          rw [← hja']
          rcases Nat.lt_or_ge j (m - 1) with h | h
          · exact hpw j (m - 1) hjl (by omega) h
          · have : j = m - 1 := by omega
            subst this; exact Bs.le_refl _
        exact Bs.lt_of_le_of_lt h3 (Bs.lt_of_le_of_ne (hpw (m - 1) m (by omega) hlt (by omega)) (fun e => hne e.symm))
      · rw [List.mem_append, h2, List.mem_singleton]
        constructor
        · rintro (⟨j, hj, hx⟩ | rfl)
          · exact ⟨j, by omega, hx⟩
          · exact ⟨m, by omega, List.getElem?_eq_getElem hlt⟩
        · rintro ⟨j, hj, hx⟩
          by_cases hjm : j = m
          · subst hjm
            right
            rw [List.getElem?_eq_getElem hlt] at hx
            exact (Option.some.inj hx).symm
          · exact .inl ⟨j, by omega, hx⟩
    · rw [if_neg hk, List.append_nil]
      refine ⟨h1, fun x => ?_⟩
      rw [h2]
      constructor
      · rintro ⟨j, hj, hx⟩
        exact ⟨j, by omega, hx⟩
      · rintro ⟨j, hj, hx⟩
        by_cases hjm : j = m
        · subst hjm
          have hm0 : j ≠ 0 := by
            rintro rfl
            exact hk (by simp [Lib.keeps])
          have he : zs[j] = zs[j - 1] := by
            have := hk
            simp [Lib.keeps, hm0, hlt, show j - 1 < zs.length by omega] at this
            exact this
          refine ⟨j - 1, by omega, ?_⟩
          rw [List.getElem?_eq_getElem (by omega), ← he]
          rw [List.getElem?_eq_getElem hlt] at hx
          exact hx
        · exact ⟨j, by omega, hx⟩

theorem compact_mem (zs : List Bs) (hs : zs.Pairwise (· ≤ ·)) : (Lib.compact zs).Pairwise (· < ·) ∧ ∀ x, x ∈ Lib.compact zs ↔ x ∈ zs := by
  obtain ⟨h1, h2⟩ := compact_step zs hs zs.length (Nat.le_refl _)
  refine ⟨h1, fun x => ?_⟩
  unfold Lib.compact
  rw [h2, List.mem_iff_getElem?]
  constructor
  · rintro ⟨j, _, h⟩; exact ⟨j, h⟩
  · rintro ⟨j, h⟩; exact ⟨j, (List.getElem?_eq_some_iff.1 h).1, h⟩

theorem nodup_of_lt {l : List Bs} (h : l.Pairwise (· < ·)) : l.Nodup := by
  unfold List.Nodup
  exact h.imp (fun {a b} hab e => by subst e; exact Bs.lt_irrefl _ hab)
theorem nodup_len {a b : List Bs} (ha : a.Nodup) (hb : b.Nodup) (h : ∀ x, x ∈ a ↔ x ∈ b) : a.length = b.length := by
  apply List.Perm.length_eq
  rw [List.perm_iff_count]
  intro x
  rw [ha.count, hb.count]
  simp only [h x]

theorem cnt_eq {ss l : List Bs} (hl : l.Pairwise (· < ·)) (h : ∀ x, x ∈ l ↔ x ∈ ss) : l.length = cnt ss := by
  obtain ⟨h1, h2⟩ := compact_mem (srt ss) (srt_sorted ss)
  exact nodup_len (nodup_of_lt hl) (nodup_of_lt h1) (fun x => by rw [h, h2, mem_srt])
theorem cnt_perm {a b : List Bs} (h : ∀ x, x ∈ a ↔ x ∈ b) : cnt a = cnt b := by
  obtain ⟨h1, h2⟩ := compact_mem (srt a) (srt_sorted a)
  exact cnt_eq h1 (fun x => by rw [h2, mem_srt, h])
theorem cnt_nil : cnt [] = 0 := by unfold cnt srt; simp [Lib.compact, Lib.compactUpTo]

/-- a name set into a list at its place -/
theorem ins_at {os : List Bs} {x : Bs} {k : Nat} (hs : os.Pairwise (· < ·)) (hk : k ≤ os.length) (hlo : ∀ j y, j < k → os[j]? = some y → y < x) (hhi : ∀ y, os[k]? = some y → ¬ y < x ∧ y ≠ x) :
    (os.take k ++ [x] ++ os.drop k).Pairwise (· < ·) ∧ ∀ y, y ∈ os.take k ++ [x] ++ os.drop k ↔ y ∈ os ∨ y = x := by
  have hpw := List.pairwise_iff_getElem.1 hs
  refine ⟨?_, fun y => ?_⟩
  · rw [List.append_assoc, List.pairwise_append]
    refine ⟨hs.sublist (List.take_sublist _ _), ?_, fun a ha b hb => ?_⟩
    · show (x :: os.drop k).Pairwise (· < ·)
      rw [List.pairwise_cons]
      refine ⟨fun b hb => ?_, hs.sublist (List.drop_sublist _ _)⟩
      obtain ⟨i, hi, rfl⟩ := List.getElem_of_mem hb
      rw [List.length_drop] at hi
      rw [List.getElem_drop]
      have hkl : k < os.length := by omega
      obtain ⟨h1, h2⟩ := hhi os[k] (List.getElem?_eq_getElem hkl)
      have hx : x < os[k] := Bs.lt_of_le_of_ne (List.not_lt.1 h1) (fun e => h2 e.symm)
      rcases Nat.eq_zero_or_pos i with h0 | h0
      · subst h0; simpa using hx
      · exact Bs.lt_trans hx (hpw k (k + i) hkl (by omega) (by omega))
    · obtain ⟨i, hi, rfl⟩ := List.getElem_of_mem ha
      have hb : b ∈ x :: os.drop k := hb
      rw [List.length_take] at hi
      rw [List.getElem_take]
      rcases List.mem_cons.1 hb with rfl | hb
      · exact hlo i _ (by omega) (List.getElem?_eq_getElem (by omega))
      · obtain ⟨j, hj, rfl⟩ := List.getElem_of_mem hb
        rw [List.length_drop] at hj
        rw [List.getElem_drop]
        exact hpw i (k + j) (by omega) (by omega) (by omega)
  · rw [List.append_assoc, List.mem_append, List.mem_append, List.mem_singleton]
    have e : y ∈ os ↔ y ∈ os.take k ∨ y ∈ os.drop k := by rw [← List.mem_append, List.take_append_drop]
    rw [e]
    constructor
    · rintro (h | h | h)
      · exact .inl (.inl h)
      · exact .inr h
      · exact .inl (.inr h)
    · rintro ((h | h) | h)
      · exact .inl h
      · exact .inr (.inr h)
      · exact .inr (.inl h)
end Go.Proofs.YtffianmhojiomaaDoor
