/- The text of a screen, plainly. -/
import Derived.Lib.RuneBytes
import Derived.Test.YtajbhfmdmajpmaaGreatDoorPk09
namespace Go.Proofs.YtajbhfmdmajpmaaGreatDoor
set_option linter.unusedVariables false
set_option linter.unusedSimpArgs false

/-! The text of a screen -/
/-- the character in a cell -/
def charAt (l : List Gl) (i : Nat) : Int := ((l.find? fun g => decide (g.cell = (i : Int))).map (·.ch)).getD 32
/-- how many characters stand ahead of a cell -/
def ptr (l : List Gl) (i : Nat) : Nat := (l.takeWhile fun g => decide (g.cell < (i : Int))).length
theorem ptr_split {l : List Gl} (h : Asc l) (i : Nat) : ∃ A B, l = A ++ B ∧ A.length = ptr l i ∧ (∀ x ∈ A, x.cell < i) ∧ (∀ x ∈ B, (i : Int) ≤ x.cell) := by
  refine ⟨l.take (ptr l i), l.drop (ptr l i), (List.take_append_drop _ _).symm, ?_, ?_, ?_⟩
  · unfold ptr
    rw [takeWhile_prefix]
  · intro x hx
    unfold ptr at hx
    rw [takeWhile_prefix] at hx
    simpa using mem_takeWhile hx
  · have hB0 : ∀ y, (l.drop (ptr l i)).head? = some y → (i : Int) ≤ y.cell := by
      intro y hy
      have := drop_takeWhile_head (p := fun g : Gl => decide (g.cell < (i : Int))) (l := l) hy
      simpa using this
    have hB1 : (l.drop (ptr l i)).Pairwise fun x y => x.cell < y.cell := by
      unfold Asc at h
      exact h.sublist (List.drop_sublist _ _)
    generalize l.drop (ptr l i) = B at hB0 hB1
    intro x hx
    cases B with
    | nil => simp at hx
    | cons b B =>
      have hb := hB0 b rfl
      rcases List.mem_cons.1 hx with rfl | hx
      · exact hb
      · have := (List.pairwise_cons.1 hB1).1 x hx; omega
theorem ptr_mid {A B : List Gl} {i : Nat} (hA : ∀ x ∈ A, x.cell < i) (hB : ∀ x ∈ B, (i : Int) ≤ x.cell) : ptr (A ++ B) i = A.length := by
  unfold ptr
  rw [List.takeWhile_append, takeWhile_all (fun x hx => by simpa using hA x hx), if_pos rfl, List.length_append]
  have : B.takeWhile (fun g => decide (g.cell < (i : Int))) = [] := by
    cases B with
    | nil => rfl
    | cons b B => rw [List.takeWhile_cons, if_neg (by have := hB b (by simp); simp; omega)]
  rw [this]; rfl
theorem ptr_le (l : List Gl) (i : Nat) : ptr l i ≤ l.length := by
  unfold ptr
  exact (List.takeWhile_sublist _).length_le
/-- the next character stands in the cell -/
theorem at_here {l : List Gl} (h : Asc l) {i : Nat} {g : Gl} (hg : l[ptr l i]? = some g) (hc : g.cell = i) : charAt l i = g.ch ∧ ptr l (i + 1) = ptr l i + 1 := by
  obtain ⟨A, B, rfl, hl, hA, hB⟩ := ptr_split h i
  rw [← hl, List.getElem?_append_right (Nat.le_refl _), Nat.sub_self] at hg
  cases B with
  | nil => simp at hg
  | cons b B =>
    simp at hg; subst hg
    refine ⟨?_, ?_⟩
    · unfold charAt
      rw [List.find?_append, List.find?_eq_none.2 (fun x hx => by have := hA x hx; simp; omega)]
      simp [hc]
    · rw [← hl]
      unfold Asc at h
      rw [List.pairwise_append, List.pairwise_cons] at h
      have e : A ++ b :: B = (A ++ [b]) ++ B := by simp
      rw [e, ptr_mid (fun x hx => ?_) (fun x hx => ?_)]
      · simp
      · rcases List.mem_append.1 hx with hx | hx
        · have := hA x hx; omega
        · simp at hx; subst hx; omega
      · have := h.2.1.1 x hx; omega
theorem at_not {l : List Gl} (h : Asc l) {i : Nat} (hn : ∀ g, l[ptr l i]? = some g → g.cell ≠ i) : charAt l i = 32 ∧ ptr l (i + 1) = ptr l i := by
  obtain ⟨A, B, rfl, hl, hA, hB⟩ := ptr_split h i
  have hB1 : ∀ x ∈ B, ((i + 1 : Nat) : Int) ≤ x.cell := by
    intro x hx
    cases B with
    | nil => simp at hx
    | cons b B =>
      have hb := hn b (by rw [← hl, List.getElem?_append_right (Nat.le_refl _), Nat.sub_self]; rfl)
      have hb2 := hB b (by simp)
      unfold Asc at h
      rw [List.pairwise_append, List.pairwise_cons] at h
      rcases List.mem_cons.1 hx with rfl | hx
      · omega
      · have := h.2.1.1 x hx; omega
  refine ⟨?_, ?_⟩
  · unfold charAt
    rw [List.find?_eq_none.2 (fun x hx => ?_)]
    · rfl
    · rcases List.mem_append.1 hx with hx | hx
      · have := hA x hx; simp; omega
      · have := hB1 x hx; simp; omega
  · rw [← hl]
    exact ptr_mid (fun x hx => by have := hA x hx; omega) hB1
/-- the grid of the characters alone -/
def chGrid (l : List Gl) : List Int := l.foldl (fun G g => G.set g.cell.toNat g.ch) (List.replicate 480 0)
theorem chGrid_len (l : List Gl) : (chGrid l).length = 480 := by
  unfold chGrid
  have : ∀ (l : List Gl) (G : List Int), (l.foldl (fun G g => G.set g.cell.toNat g.ch) G).length = G.length := by
    intro l
    induction l with
    | nil => intro G; rfl
    | cons g l ih => intro G; rw [List.foldl_cons, ih, List.length_set]
  rw [this]; exact List.length_replicate
theorem chGrid_fold : ∀ (l : List Gl) (G : List Int), G.length = 480 → Asc l → (∀ g ∈ l, g.ok) → ∀ i : Nat, i < 480 → (l.foldl (fun G g => G.set g.cell.toNat g.ch) G)[i]? = ((l.find? fun g => decide (g.cell = (i : Int))).map (·.ch)).or G[i]?
  | [], G, _, _, _, i, _ => by simp
  | g :: l, G, h, ha, hg, i, hi => by
    have hgc := Gl.ok_cell (hg g (by simp))
    unfold Asc at ha
    rw [List.pairwise_cons] at ha
    rw [List.foldl_cons, chGrid_fold l _ (by rw [List.length_set]; exact h) ha.2 (fun x hx => hg x (by simp [hx])) i hi]
    rw [List.getElem?_set]
    by_cases hc : g.cell = i
    · rw [if_pos (by omega), if_pos (by omega), List.find?_cons, show decide (g.cell = ↑i) = true by simpa using hc]
      rw [List.find?_eq_none.2 (fun x hx => by have := ha.1 x hx; simp; omega)]
      rfl
    · rw [if_neg (by omega), List.find?_cons, show decide (g.cell = ↑i) = false by simpa using hc]
theorem chGrid_at {l : List Gl} (ha : Asc l) (hg : ∀ g ∈ l, g.ok) {i : Nat} (hi : i < 480) : ∃ r, (chGrid l)[i]? = some r ∧ (if r = 0 then 32 else r) = charAt l i := by
  have h := chGrid_fold l (List.replicate 480 0) List.length_replicate ha hg i hi
  unfold chGrid charAt
  rw [h]
  rw [List.getElem?_replicate, if_pos hi]
  cases hf : l.find? fun g => decide (g.cell = ↑i) with
  | none => exact ⟨0, rfl, rfl⟩
  | some g =>
    refine ⟨g.ch, rfl, ?_⟩
    rw [if_neg (hg g (List.mem_of_find?_eq_some hf)).2.2.2.2]
    rfl
/-- the bytes of the cells up to the n-th -/
def txtTo (l : List Gl) (n : Nat) : List UInt8 := (List.range n).flatMap fun i => Lib.encodeRune (charAt l i) ++ if i % 32 = 31 then [10] else []
theorem txt_succ (l : List Gl) (n : Nat) : txtTo l (n + 1) = txtTo l n ++ (Lib.encodeRune (charAt l n) ++ if n % 32 = 31 then [10] else []) := by
  unfold txtTo
  rw [List.range_succ, List.flatMap_append]
  simp
theorem enc_len (r : Int) : 1 ≤ (Lib.encodeRune r).length ∧ (Lib.encodeRune r).length ≤ 4 := by
  have := Lib.encodeRuneZ_length r
  unfold Lib.encodeRune
  rw [List.length_map]
  exact this
theorem txt_len (l : List Gl) : ∀ n, (txtTo l n).length ≤ 5 * n
  | 0 => by simp [txtTo]
  | n + 1 => by
    have h1 := txt_len l n
    have h2 := (enc_len (charAt l n)).2
    rw [txt_succ, List.length_append, List.length_append]
    split
    · simp; omega
    · simp; omega
/-- the text of a screen -/
def txtOf (l : List Gl) : ByteArray := ⟨(txtTo l 480).toArray⟩
theorem encode_enc (r : Int) : (Utf8.encode r).data.toList = Lib.encodeRune r := by
  unfold Utf8.encode Lib.encodeRune
  by_cases hv : Utf8.valid r = true
  · rw [if_pos hv]
    unfold Utf8.valid at hv
    simp at hv
    simp only
    obtain ⟨n, rfl⟩ : ∃ n : Nat, r = n := ⟨r.toNat, by omega⟩
    simp only [Int.toNat_natCast]
    by_cases h1 : n < 128
    · rw [if_pos h1, Lib.encodeRuneZ_one (by omega) (by omega)]
      simp
    · rw [if_neg h1]
      by_cases h2 : n < 2048
      · rw [if_pos h2, Lib.encodeRuneZ_two (by omega) (by omega)]
        simp only [List.map_cons, List.map_nil]
        rw [show (192 + (n : Int) / 64).toNat = 192 + n / 64 by omega, show (128 + (n : Int) % 64).toNat = 128 + n % 64 by omega]
      · rw [if_neg h2]
        by_cases h3 : n < 65536
        · rw [if_pos h3, Lib.encodeRuneZ_three (by omega)]
          simp only [List.map_cons, List.map_nil]
          rw [show (224 + (n : Int) / 4096).toNat = 224 + n / 4096 by omega, show (128 + (n : Int) / 64 % 64).toNat = 128 + n / 64 % 64 by omega, show (128 + (n : Int) % 64).toNat = 128 + n % 64 by omega]
        · rw [if_neg h3, Lib.encodeRuneZ_four (by omega) (by omega)]
          simp only [List.map_cons, List.map_nil]
          rw [show (240 + (n : Int) / 262144).toNat = 240 + n / 262144 by omega, show (128 + (n : Int) / 4096 % 64).toNat = 128 + n / 4096 % 64 by omega, show (128 + (n : Int) / 64 % 64).toNat = 128 + n / 64 % 64 by omega, show (128 + (n : Int) % 64).toNat = 128 + n % 64 by omega]
  · rw [if_neg hv]
    unfold Utf8.valid at hv
    simp at hv
    rw [Lib.encodeRuneZ_bad (by omega)]
    rfl
end Go.Proofs.YtajbhfmdmajpmaaGreatDoor
