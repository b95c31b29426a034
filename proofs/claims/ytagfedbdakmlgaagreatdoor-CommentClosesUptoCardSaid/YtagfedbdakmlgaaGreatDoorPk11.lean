/- Laid together: Frames in another rate, plainly. Drifts and the worst of them, plainly. Documents in another rate, plainly. slices.Clone of regions, comments and heads of events. Arguments opened: what a reading of slices and structs gives, as slices that read as lists. No program in sight but through its tables. -/
import Derived.Test.YtagfedbdakmlgaaGreatDoorPk10
import Derived.Test.YtagfedbdakmlgaaGreatDoorPk04
import Derived.Test.YtagfedbdakmlgaaGreatDoorPk01
import Derived.OpenShut
import Derived.ProofKit
import Derived.Carry

/-! ConvP -/
namespace Go.Proofs.YtagfedbdakmlgaaGreatDoor
set_option linter.unusedVariables false
set_option linter.unusedSimpArgs false
open Go.RowKit

theorem ticks_bd {r : Int} (h : rOk r = true) : 2002 ≤ rTicks r ∧ rTicks r ≤ 5005 := by
  have := of_decide_eq_true h
  have hr : r = 1 ∨ r = 2 ∨ r = 3 ∨ r = 4 ∨ r = 5 ∨ r = 6 ∨ r = 7 := by omega
  rcases hr with rfl | rfl | rfl | rfl | rfl | rfl | rfl <;> decide
theorem ticks_bad {r : Int} (h : rOk r = false) : rTicks r = 0 := by
  have := of_decide_eq_false h
  unfold rTicks
  repeat (rw [if_neg (by omega)])
/-- the tick at which a frame begins, and the error -/
def timeT (r f : Int) : Int × Int := if rOk r = false then (0, 3) else if f < 0 ∨ 10378368000 / rTicks r < f then (0, 2) else (f * rTicks r, 0)
/-- the frame of a tick (mode m), and the error -/
def frameT (r t m : Int) : Int × Int := if rOk r = false then (0, 3) else if t < 0 ∨ 10378368000 < t then (0, 2) else if 10378368000 < quoI t (rTicks r) m * rTicks r then (0, 2) else (quoI t (rTicks r) m, 0)
def convT (a b f m : Int) : Int × Int := if rOk a = false ∨ rOk b = false then (0, 3) else if (timeT a f).2 ≠ 0 then (0, (timeT a f).2) else frameT b (timeT a f).1 m
theorem timeT_ok {r f : Int} (h : (timeT r f).2 = 0) : rOk r = true ∧ 0 ≤ f ∧ f ≤ 10378368000 / rTicks r ∧ (timeT r f).1 = f * rTicks r ∧ 0 ≤ f * rTicks r ∧ f * rTicks r ≤ 10378368000 := by
  unfold timeT at h ⊢
  split at h
  · simp at h
  · rename_i h1
    have ho : rOk r = true := by simpa using h1
    obtain ⟨t1, t2⟩ := ticks_bd ho
    split at h
    · simp at h
    · rename_i h2
      rw [if_neg h1, if_neg h2]
      refine ⟨ho, by omega, by omega, rfl, Int.mul_nonneg (by omega) (by omega), ?_⟩
      have : f ≤ 10378368000 / rTicks r := by omega
      exact Int.le_trans (Int.mul_le_mul_of_nonneg_right this (by omega)) (Int.ediv_mul_le _ (by omega))
theorem quo_near {n d : Int} (hn : 0 ≤ n) (hd : 0 < d) : 2 * (quoI n d 2 * d - n) ≤ d ∧ -d ≤ 2 * (quoI n d 2 * d - n) ∧ 0 ≤ quoI n d 2 := by
  have h1 := Int.emod_nonneg n (show d ≠ 0 by omega)
  have h2 := Int.emod_lt_of_pos n hd
  have h3 := Int.mul_ediv_add_emod n d
  have h4 : 0 ≤ n / d := Int.ediv_nonneg hn (by omega)
  have h5 : d * (n / d) = n / d * d := Int.mul_comm ..
  unfold quoI awayB
  by_cases hr : n % d = 0
  · simp only [hr, if_true]
    simp
    omega
  · simp only [hr, if_false]
    by_cases hx : d - n % d ≤ n % d
    · simp [hx]
      have : (n / d + 1) * d = n / d * d + d := by rw [Int.add_mul, Int.one_mul]
      omega
    · simp [hx]
      omega
/-- the frame nearest to n is k, where k is closer than half a frame -/
theorem quo_unique {n d k : Int} (hn : 0 ≤ n) (hd : 0 < d) (h1 : 2 * (k * d - n) < d) (h2 : -d < 2 * (k * d - n)) : quoI n d 2 = k := by
  obtain ⟨a1, a2, _⟩ := quo_near hn hd
  generalize quoI n d 2 = q at *
  have hqk : (q - k) * d = q * d - k * d := by rw [Int.sub_mul]
  have h3 : (q - k) * d < d := by omega
  have h4 : -d < (q - k) * d := by omega
  have h5 : q - k < 1 := by
    by_cases h : q - k < 1
    · exact h
    · have : 1 * d ≤ (q - k) * d := Int.mul_le_mul_of_nonneg_right (by omega) (by omega)
      omega
  have h6 : -1 < q - k := by
    by_cases h : -1 < q - k
    · exact h
    · have : (q - k) * d ≤ (-1) * d := Int.mul_le_mul_of_nonneg_right (by omega) (by omega)
      omega
  omega
theorem quo_mono {n m d : Int} (hn : 0 ≤ n) (hd : 0 < d) (h : n + d ≤ m) : quoI n d 2 + 1 ≤ quoI m d 2 := by
  have e : quoI (n + d) d 2 = quoI n d 2 + 1 := by
    unfold quoI
    rw [Int.add_emod_right, Int.add_ediv_of_dvd_right (Int.dvd_refl d), Int.ediv_self (by omega)]
    split <;> omega
  have mono : ∀ x y, 0 ≤ x → x ≤ y → quoI x d 2 ≤ quoI y d 2 := by
    intro x y hx hxy
    obtain ⟨a1, a2, _⟩ := quo_near hx hd
    obtain ⟨b1, b2, _⟩ := quo_near (show 0 ≤ y by omega) hd
    by_cases hlt : quoI x d 2 ≤ quoI y d 2
    · exact hlt
    · have hq : quoI y d 2 + 1 ≤ quoI x d 2 := by omega
      have h5 : (quoI y d 2 + 1) * d ≤ quoI x d 2 * d := Int.mul_le_mul_of_nonneg_right hq (by omega)
      rw [Int.add_mul, Int.one_mul] at h5
      have hxy2 : x = y := by omega
      rw [hxy2] at hlt
      omega
  have := mono (n + d) m (by omega) h
  omega

/-- the span that a span becomes, and the error -/
def spanT (a b i o m : Int) : (Int × Int) × Int :=
  if rOk a = false ∨ rOk b = false then ((0, 0), 3) else if ¬ (m = 1 ∨ m = 2) ∨ o ≤ i then ((0, 0), 1) else if i < 0 ∨ 5184000 < o then ((0, 0), 2) else if m = 2 then ((i, o), 0) else
    if (convT a b i 2).2 ≠ 0 then ((0, 0), (convT a b i 2).2) else if (convT a b o 2).2 ≠ 0 then ((0, 0), (convT a b o 2).2) else
      if 5184000 < max (convT a b o 2).1 ((convT a b i 2).1 + 1) then ((0, 0), 2) else (((convT a b i 2).1, max (convT a b o 2).1 ((convT a b i 2).1 + 1)), 0)
theorem spanT_bad {a b i o m : Int} (h : (spanT a b i o m).2 ≠ 0) : (spanT a b i o m).1 = (0, 0) := by
  unfold spanT at h ⊢
  by_cases h1 : rOk a = false ∨ rOk b = false
  · rw [if_pos h1]
  rw [if_neg h1] at h ⊢
  by_cases h2 : ¬ (m = 1 ∨ m = 2) ∨ o ≤ i
  · rw [if_pos h2]
  rw [if_neg h2] at h ⊢
  by_cases h3 : i < 0 ∨ 5184000 < o
  · rw [if_pos h3]
  rw [if_neg h3] at h ⊢
  by_cases h4 : m = 2
  · rw [if_pos h4] at h; exact absurd rfl h
  rw [if_neg h4] at h ⊢
  by_cases h5 : (convT a b i 2).2 ≠ 0
  · rw [if_pos h5]
  rw [if_neg h5] at h ⊢
  by_cases h6 : (convT a b o 2).2 ≠ 0
  · rw [if_pos h6]
  rw [if_neg h6] at h ⊢
  by_cases h7 : 5184000 < max (convT a b o 2).1 ((convT a b i 2).1 + 1)
  · rw [if_pos h7]
  · rw [if_neg h7] at h; exact absurd rfl h
theorem convT_ok {a b f : Int} (h : (convT a b f 2).2 = 0) : rOk a = true ∧ rOk b = true ∧ 0 ≤ f ∧ 0 ≤ f * rTicks a ∧ f * rTicks a ≤ 10378368000 ∧ (convT a b f 2).1 = quoI (f * rTicks a) (rTicks b) 2 ∧ quoI (f * rTicks a) (rTicks b) 2 * rTicks b ≤ 10378368000 := by
  unfold convT at h ⊢
  split at h
  · simp at h
  · rename_i h1
    have ha : rOk a = true := by
      cases hx : rOk a
      · exact absurd (.inl hx) h1
      · rfl
    have hb : rOk b = true := by
      cases hx : rOk b
      · exact absurd (.inr hx) h1
      · rfl
    rw [if_neg h1]
    split at h
    · rename_i h2; simp at h; exact absurd h h2
    · rename_i h2
      rw [if_neg h2]
      obtain ⟨_, k2, _, k4, k5, k6⟩ := timeT_ok (r := a) (f := f) (by simpa using h2)
      rw [k4] at h ⊢
      unfold frameT at h ⊢
      rw [if_neg (by simp [hb]), if_neg (by omega)] at h ⊢
      split at h
      · simp at h
      · rename_i h3
        rw [if_neg h3]
        exact ⟨ha, hb, k2, k5, k6, rfl, by omega⟩
/-- what the span is, where the times are kept -/
theorem spanT_time {a b i o : Int} (h : (spanT a b i o 1).2 = 0) : rOk a = true ∧ rOk b = true ∧ 0 ≤ i ∧ i < o ∧ o ≤ 5184000 ∧ (convT a b i 2).2 = 0 ∧ (convT a b o 2).2 = 0 ∧ (spanT a b i o 1).1 = ((convT a b i 2).1, max (convT a b o 2).1 ((convT a b i 2).1 + 1)) ∧ max (convT a b o 2).1 ((convT a b i 2).1 + 1) ≤ 5184000 := by
  unfold spanT at h ⊢
  by_cases h1 : rOk a = false ∨ rOk b = false
  · rw [if_pos h1] at h; simp at h
  rw [if_neg h1] at h ⊢
  by_cases h2 : ¬ ((1 : Int) = 1 ∨ (1 : Int) = 2) ∨ o ≤ i
  · rw [if_pos h2] at h; simp at h
  rw [if_neg h2] at h ⊢
  by_cases h3 : i < 0 ∨ 5184000 < o
  · rw [if_pos h3] at h; simp at h
  rw [if_neg h3, if_neg (by decide)] at h ⊢
  by_cases h4 : (convT a b i 2).2 ≠ 0
  · rw [if_pos h4] at h; exact absurd h h4
  rw [if_neg h4] at h ⊢
  by_cases h5 : (convT a b o 2).2 ≠ 0
  · rw [if_pos h5] at h; exact absurd h h5
  rw [if_neg h5] at h ⊢
  by_cases h6 : 5184000 < max (convT a b o 2).1 ((convT a b i 2).1 + 1)
  · rw [if_pos h6] at h; simp at h
  rw [if_neg h6]
  refine ⟨?_, ?_, by omega, by omega, by omega, by simpa using h4, by simpa using h5, rfl, by omega⟩
  · cases hx : rOk a
    · exact absurd (.inl hx) h1
    · rfl
  · cases hx : rOk b
    · exact absurd (.inr hx) h1
    · rfl
theorem spanT_frames {a b i o : Int} (h : (spanT a b i o 2).2 = 0) : (spanT a b i o 2).1 = (i, o) := by
  unfold spanT at h ⊢
  by_cases h1 : rOk a = false ∨ rOk b = false
  · rw [if_pos h1] at h; simp at h
  rw [if_neg h1] at h ⊢
  by_cases h2 : ¬ ((2 : Int) = 1 ∨ (2 : Int) = 2) ∨ o ≤ i
  · rw [if_pos h2] at h; simp at h
  rw [if_neg h2] at h ⊢
  by_cases h3 : i < 0 ∨ 5184000 < o
  · rw [if_pos h3] at h; simp at h
  rw [if_neg h3, if_pos rfl]
/-- with the frames kept a span comes back from every rate -/
theorem back_frames {a b i o : Int} (h : (spanT a b i o 2).2 = 0) (h2 : (spanT b a (spanT a b i o 2).1.1 (spanT a b i o 2).1.2 2).2 = 0) : (spanT b a (spanT a b i o 2).1.1 (spanT a b i o 2).1.2 2).1 = (i, o) := by
  rw [spanT_frames h2, spanT_frames h]
/-- with the times kept a span comes back from a rate whose frames are not longer -/
theorem back_times {a b i o : Int} (hab : rTicks b ≤ rTicks a) (h : (spanT a b i o 1).2 = 0) (h2 : (spanT b a (spanT a b i o 1).1.1 (spanT a b i o 1).1.2 1).2 = 0) : (spanT b a (spanT a b i o 1).1.1 (spanT a b i o 1).1.2 1).1 = (i, o) := by
  obtain ⟨ha, hb, h0, hio, ho, ci, co, e1, _⟩ := spanT_time h
  obtain ⟨t1, t2⟩ := ticks_bd ha
  obtain ⟨t3, t4⟩ := ticks_bd hb
  obtain ⟨_, _, _, i1, i2, i3, _⟩ := convT_ok ci
  obtain ⟨_, _, _, o1, o2, o3, _⟩ := convT_ok co
  have hstep : i * rTicks a + rTicks b ≤ o * rTicks a := by
    have : (i + 1) * rTicks a ≤ o * rTicks a := Int.mul_le_mul_of_nonneg_right (by omega) (by omega)
    rw [Int.add_mul, Int.one_mul] at this
    omega
  have hmono := quo_mono i1 (show 0 < rTicks b by omega) hstep
  have emax : max (convT a b o 2).1 ((convT a b i 2).1 + 1) = (convT a b o 2).1 := by rw [i3, o3]; omega
  rw [e1, emax] at h2 ⊢
  dsimp only at h2 ⊢
  obtain ⟨_, _, _, _, _, di, d_o, e2, _⟩ := spanT_time h2
  obtain ⟨_, _, _, p1, _, p3, _⟩ := convT_ok di
  obtain ⟨_, _, _, q1, _, q3, _⟩ := convT_ok d_o
  obtain ⟨n1, n2, _⟩ := quo_near i1 (show 0 < rTicks b by omega)
  obtain ⟨m1, m2, _⟩ := quo_near o1 (show 0 < rTicks b by omega)
  have back : ∀ k q : Int, 0 ≤ q * rTicks b → 2 * (q * rTicks b - k * rTicks a) ≤ rTicks b → -rTicks b ≤ 2 * (q * rTicks b - k * rTicks a) → quoI (q * rTicks b) (rTicks a) 2 = k := by
    intro k q hq g1 g2
    by_cases hlt : rTicks b < rTicks a
    · exact quo_unique hq (by omega) (by omega) (by omega)
    · have he : rTicks b = rTicks a := by omega
      rw [he] at g1 g2 hq ⊢
      have hz : (q - k) * rTicks a = q * rTicks a - k * rTicks a := Int.sub_mul ..
      have hq' : q = k := by
        rcases Int.lt_trichotomy q k with h | h | h
        · have : (q - k) * rTicks a ≤ (-1) * rTicks a := Int.mul_le_mul_of_nonneg_right (by omega) (by omega)
          omega
        · exact h
        · have : 1 * rTicks a ≤ (q - k) * rTicks a := Int.mul_le_mul_of_nonneg_right (by omega) (by omega)
          omega
      subst hq'
      exact quo_unique hq (by omega) (by omega) (by omega)
  have bi : (convT b a (convT a b i 2).1 2).1 = i := by
    rw [p3, i3]
    exact back i _ (by rw [← i3]; exact p1) n1 n2
  have bo : (convT b a (convT a b o 2).1 2).1 = o := by
    rw [q3, o3]
    exact back o _ (by rw [← o3]; exact q1) m1 m2
  rw [e2, bi, bo]
  have : max o (i + 1) = o := by omega
  rw [this]
end Go.Proofs.YtagfedbdakmlgaaGreatDoor

/-! WorstP -/
namespace Go.Proofs.YtagfedbdakmlgaaGreatDoor
set_option linter.unusedVariables false
set_option linter.unusedSimpArgs false
open Go.RowKit

/-- a drift -/
structure Dri where
  id : Int
  inn : Int
  out : Int
  deriving DecidableEq
def Dri.vals (d : Dri) : List Value := [.int .i64 d.id, .int .i64 d.inn, .int .i64 d.out]
def DrisAt (w : World) (A : Option Addr) (n : Nat) (l : List Dri) : Prop := Sl w 3 (Cells Dri.vals) A n l
theorem DrisAt.ext {w w1 : World} {A : Option Addr} {n : Nat} {l : List Dri} (h : DrisAt w A n l) (k : Ext w w1) : DrisAt w1 A n l := Sl.ext (Cells.stays _) h k
theorem DrisAt.at3 {w : World} {A : Option Addr} {n : Nat} {l : List Dri} (h : DrisAt w A n l) {i : Nat} (hi : i < n) : ∃ b off d, A = some ⟨b, off, none⟩ ∧ l[i]? = some d ∧
    (w.cell? ⟨b, off + i * 3, none⟩ = some (.int .i64 d.id) ∧ w.cell? ⟨b, off + i * 3 + 1, none⟩ = some (.int .i64 d.inn) ∧ w.cell? ⟨b, off + i * 3 + 2, none⟩ = some (.int .i64 d.out)) := by
  obtain ⟨b, off, c, hA, hc, hC⟩ := h.at_ hi
  exact ⟨b, off, c, hA, hc, by simpa using hC 0 _ rfl, hC 1 _ rfl, hC 2 _ rfl⟩
/-- the numbers fit -/
def Dri.Fits (d : Dri) : Prop := (-9223372036854775808 ≤ d.inn ∧ d.inn ≤ 9223372036854775807) ∧ (-9223372036854775808 ≤ d.out ∧ d.out ≤ 9223372036854775807)
/-- the size of a drift -/
def dsz (n : Int) : Int := if n = -9223372036854775808 then 9223372036854775807 else if n < 0 then -n else n
theorem dsz_bd {n : Int} (h1 : -9223372036854775808 ≤ n) (h2 : n ≤ 9223372036854775807) : 0 ≤ dsz n ∧ dsz n ≤ 9223372036854775807 := by
  unfold dsz
  split
  · omega
  · split <;> omega
def worstStep (n : Int) (d : Dri) : Int := max (max n (dsz d.inn)) (dsz d.out)
def worst (l : List Dri) : Int := l.foldl worstStep 0
theorem worst_snoc (l : List Dri) (d : Dri) : worst (l ++ [d]) = worstStep (worst l) d := by simp [worst, List.foldl_append]
theorem worst_take {l : List Dri} {k : Nat} {d : Dri} (h : l[k]? = some d) : worst (l.take (k + 1)) = worstStep (worst (l.take k)) d := by rw [take_snoc' l k d h, worst_snoc]
theorem worst_ge : ∀ (l : List Dri) (n : Int), n ≤ l.foldl worstStep n ∧ (∀ d ∈ l, dsz d.inn ≤ l.foldl worstStep n ∧ dsz d.out ≤ l.foldl worstStep n) ∧ (l.foldl worstStep n = n ∨ ∃ d ∈ l, dsz d.inn = l.foldl worstStep n ∨ dsz d.out = l.foldl worstStep n)
  | [], n => ⟨Int.le_refl _, by simp, .inl rfl⟩
  | x :: l, n => by
    obtain ⟨h1, h2, h3⟩ := worst_ge l (worstStep n x)
    rw [List.foldl_cons]
    have hs : n ≤ worstStep n x ∧ dsz x.inn ≤ worstStep n x ∧ dsz x.out ≤ worstStep n x ∧ (worstStep n x = n ∨ dsz x.inn = worstStep n x ∨ dsz x.out = worstStep n x) := by unfold worstStep; omega
    refine ⟨by omega, fun d hd => ?_, ?_⟩
    · rcases List.mem_cons.1 hd with rfl | hd
      · omega
      · exact h2 d hd
    · rcases h3 with h3 | ⟨d, hd, h3⟩
      · rw [h3]
        rcases hs.2.2.2 with h | h | h
        · exact .inl h
        · exact .inr ⟨x, by simp, .inl h⟩
        · exact .inr ⟨x, by simp, .inr h⟩
      · exact .inr ⟨d, by simp [hd], h3⟩
theorem worst_bd {l : List Dri} (hl : ∀ d ∈ l, d.Fits) : 0 ≤ worst l ∧ worst l ≤ 9223372036854775807 := by
  obtain ⟨h1, h2, h3⟩ := worst_ge l 0
  refine ⟨h1, ?_⟩
  rcases h3 with h3 | ⟨d, hd, h3 | h3⟩
  · show l.foldl worstStep 0 ≤ _; omega
  · have := dsz_bd (hl d hd).1.1 (hl d hd).1.2; show l.foldl worstStep 0 ≤ _; omega
  · have := dsz_bd (hl d hd).2.1 (hl d hd).2.2; show l.foldl worstStep 0 ≤ _; omega
/-- whether the worst is met among these -/
def metB (n : Int) (l : List Dri) : Bool := decide (n = 0) || l.any fun d => decide (dsz d.inn = n) || decide (dsz d.out = n)
theorem met_all (l : List Dri) : metB (worst l) l = true := by
  unfold metB
  rcases (worst_ge l 0).2.2 with h | ⟨d, hd, h⟩
  · have : worst l = 0 := h
    simp [this]
  · simp only [Bool.or_eq_true, List.any_eq_true, decide_eq_true_eq]
    exact .inr ⟨d, hd, h⟩
theorem met_take {l : List Dri} {k : Nat} {d : Dri} {n : Int} (h : l[k]? = some d) : metB n (l.take (k + 1)) = (metB n (l.take k) || decide (dsz d.inn = n) || decide (dsz d.out = n)) := by
  rw [take_snoc' l k d h]
  unfold metB
  simp [Bool.or_assoc]
/-- the number whose size is taken -/
def dfix (x : Int) : Int := if x = -9223372036854775808 then -9223372036854775807 else x
theorem dfix_size (x : Int) : dsz x = if dfix x < 0 then -dfix x else dfix x := by
  unfold dsz dfix
  by_cases h : x = -9223372036854775808
  · simp [h]
  · simp [h]
theorem dfix_le {x n : Int} (h : dsz x ≤ n) : ¬ n < dfix x ∧ ¬ n < -dfix x := by
  rw [dfix_size] at h
  split at h <;> omega
theorem dfix_met {x n : Int} (hn : 0 ≤ n) : (decide (dfix x = n) || decide (-dfix x = n)) = decide (dsz x = n) := by
  rw [dfix_size, ← Bool.decide_or]
  congr 1
  apply propext
  split <;> omega
end Go.Proofs.YtagfedbdakmlgaaGreatDoor

/-! RetP -/
namespace Go.Proofs.YtagfedbdakmlgaaGreatDoor
set_option linter.unusedVariables false
set_option linter.unusedSimpArgs false
open Go.RowKit

/-- the document without anything -/
def Doc.zero : Doc := ⟨⟨#[]⟩, ⟨#[]⟩, 0, false, 0, [], [], []⟩
/-- the span of an event in another rate, and the error -/
def Ev.span (a b m : Int) (x : Ev) : (Int × Int) × Int := spanT a b x.inn x.out m
/-- the first error of the spans -/
def retErr (a b m : Int) : List Ev → Int
  | [] => 0
  | x :: l => if (x.span a b m).2 ≠ 0 then (x.span a b m).2 else retErr a b m l
/-- the event at place k in another rate -/
def retEv (a b m : Int) (k : Nat) (x : Ev) : Ev := ⟨(k : Int) + 1, (x.span a b m).1.1, (x.span a b m).1.2, x.region, x.kind, x.speaker, x.rows⟩
def retDri (a b m : Int) (k : Nat) (x : Ev) : Dri := ⟨(k : Int) + 1, (x.span a b m).1.1 * rTicks b - x.inn * rTicks a, (x.span a b m).1.2 * rTicks b - x.out * rTicks a⟩
def retEvs (a b m : Int) (l : List Ev) : List Ev := l.mapIdx (retEv a b m)
def retDris (a b m : Int) (l : List Ev) : List Dri := l.mapIdx (retDri a b m)
/-- the new number of an event -/
def newId (l : List Ev) (id : Int) : Int := match findE l id with | some k => (k : Int) + 1 | none => 0
/-- the comments that are not lost, numbered behind a number -/
def retComs (evs : List Ev) : Int → List Com → List Com
  | _, [] => []
  | p, c :: l => if c.lost = true then retComs evs p l else ⟨p + 1, newId evs c.ev, c.fr, c.til, c.author, c.text, c.done, c.lost⟩ :: retComs evs (p + 1) l
def liveN (l : List Com) : Nat := (l.filter fun c => !c.lost).length
def Doc.ret (d : Doc) (b : Int) (drop : Bool) (m : Int) : Doc :=
  ⟨d.title, d.lang, b, drop, (d.evs.length : Int) + liveN d.coms, d.regs, retEvs d.rate b m d.evs, retComs d.evs d.evs.length d.coms⟩
/-- the error of a document in another rate -/
def Doc.retE (d : Doc) (b : Int) (drop : Bool) (m : Int) : Int :=
  if d.err ≠ 0 then d.err else if rateOkB b drop = false then 13 else if ¬ (m = 1 ∨ m = 2) then 1 else retErr d.rate b m d.evs
/-- the document, the drifts -/
def Doc.retD (d : Doc) (b : Int) (drop : Bool) (m : Int) : Doc := if d.retE b drop m = 0 then d.ret b drop m else Doc.zero
def Doc.retL (d : Doc) (b : Int) (drop : Bool) (m : Int) : List Dri := if d.retE b drop m = 0 then retDris d.rate b m d.evs else []

theorem mapIdx_snoc {α β : Type} (f : Nat → α → β) (l : List α) (x : α) : (l ++ [x]).mapIdx f = l.mapIdx f ++ [f l.length x] := by simp [List.mapIdx_append]
theorem mapIdx_take {α β : Type} (f : Nat → α → β) {l : List α} {k : Nat} {x : α} (h : l[k]? = some x) : (l.take (k + 1)).mapIdx f = (l.take k).mapIdx f ++ [f k x] := by
  have := (List.getElem?_eq_some_iff.1 h).1
  rw [take_snoc' l k x h, mapIdx_snoc, List.length_take, Nat.min_eq_left (by omega)]
theorem retErr_step {a b m : Int} {l : List Ev} {k : Nat} {x : Ev} {E : Int} (h : l[k]? = some x) (hP : E = retErr a b m (l.drop k)) : ((x.span a b m).2 ≠ 0 → E = (x.span a b m).2) ∧ ((x.span a b m).2 = 0 → E = retErr a b m (l.drop (k + 1))) := by
  rw [drop_at l k x h] at hP
  unfold retErr at hP
  refine ⟨fun h => by rw [if_pos h] at hP; exact hP, fun h => by rw [if_neg (by simpa using h)] at hP; exact hP⟩
theorem retErr_all {a b m : Int} : ∀ {l : List Ev}, retErr a b m l = 0 → ∀ x ∈ l, (x.span a b m).2 = 0
  | [], _, x, hx => by simp at hx
  | y :: l, h, x, hx => by
    unfold retErr at h
    split at h
    · rename_i h1; exact absurd h h1
    · rename_i h1
      rcases List.mem_cons.1 hx with rfl | hx
      · simpa using h1
      · exact retErr_all h x hx
theorem retComs_snoc (evs : List Ev) : ∀ (l : List Com) (p : Int) (c : Com), retComs evs p (l ++ [c]) = retComs evs p l ++ (if c.lost = true then [] else [⟨p + liveN l + 1, newId evs c.ev, c.fr, c.til, c.author, c.text, c.done, c.lost⟩])
  | [], p, c => by simp [retComs, liveN]
  | y :: l, p, c => by
    rw [List.cons_append, retComs, retComs]
    cases hy : y.lost
    · have hl : (liveN (y :: l) : Int) = 1 + (liveN l : Int) := by simp [liveN, List.filter_cons, hy]; omega
      have hn : ¬ (false = true) := by decide
      rw [if_neg hn, if_neg hn, retComs_snoc evs l (p + 1) c, List.cons_append, hl]
      rw [show p + 1 + (liveN l : Int) + 1 = p + (1 + (liveN l : Int)) + 1 by omega]
    · have hl : liveN (y :: l) = liveN l := by simp [liveN, List.filter_cons, hy]
      rw [if_pos rfl, if_pos rfl, retComs_snoc evs l p c, hl]
theorem liveN_snoc (l : List Com) (c : Com) : liveN (l ++ [c]) = liveN l + if c.lost = true then 0 else 1 := by
  unfold liveN
  rw [List.filter_append, List.length_append]
  cases h : c.lost <;> simp [List.filter_cons, h]
theorem liveN_le (l : List Com) : liveN l ≤ l.length := List.length_filter_le _ _
theorem retComs_len (evs : List Ev) : ∀ (l : List Com) (p : Int), (retComs evs p l).length = liveN l
  | [], p => by simp [retComs, liveN]
  | y :: l, p => by
    rw [retComs]
    cases hy : y.lost
    · rw [if_neg (by decide), List.length_cons, retComs_len evs l (p + 1)]; simp [liveN, List.filter_cons, hy]
    · rw [if_pos rfl, retComs_len evs l p]; simp [liveN, List.filter_cons, hy]
/-- the last of the numbered comments -/
theorem retComs_take (evs : List Ev) {l : List Com} {k : Nat} {c : Com} (h : l[k]? = some c) (p : Int) :
    retComs evs p (l.take (k + 1)) = retComs evs p (l.take k) ++ (if c.lost = true then [] else [⟨p + liveN (l.take k) + 1, newId evs c.ev, c.fr, c.til, c.author, c.text, c.done, c.lost⟩]) := by
  rw [take_snoc' l k c h, retComs_snoc]
theorem liveN_take {l : List Com} {k : Nat} {c : Com} (h : l[k]? = some c) : liveN (l.take (k + 1)) = liveN (l.take k) + if c.lost = true then 0 else 1 := by
  rw [take_snoc' l k c h, liveN_snoc]
end Go.Proofs.YtagfedbdakmlgaaGreatDoor

/-! SlCl -/
namespace Go.Proofs.YtagfedbdakmlgaaGreatDoor
set_option linter.unusedVariables false
set_option linter.unusedSimpArgs false
open Go.RowKit

theorem info_regI : (Tryz.prog.info? 94).map (fun i => (i.zero, i.size, i.bytes)) = some (some (.agg #[.string ⟨#[]⟩, .int .i64 0, .int .i64 0, .int .i64 0, .int .i64 0, .int .u8 0, .bool false]), 7, 56) := by kernel_rfl
theorem info_comI : (Tryz.prog.info? 78).map (fun i => (i.zero, i.size, i.bytes)) = some (some (.agg #[.int .i64 0, .int .i64 0, .int .i64 0, .int .i64 0, .string ⟨#[]⟩, .string ⟨#[]⟩, .bool false, .bool false]), 8, 72) := by kernel_rfl
theorem info_evtI : (Tryz.prog.info? 66).map (fun i => (i.zero, i.size, i.bytes)) = some (some (.agg #[.int .i64 0, .int .i64 0, .int .i64 0, .string ⟨#[]⟩, .int .u8 0, .string ⟨#[]⟩, .slice none 0 0]), 7, 88) := by kernel_rfl
theorem reg_ones : ∀ (r : Reg), ∀ u ∈ r.vals, u.oneCell' = true := by intro r u hu; simp [Reg.vals] at hu; rcases hu with rfl | rfl | rfl | rfl | rfl | rfl | rfl <;> rfl
theorem com_ones : ∀ (r : Com), ∀ u ∈ r.vals, u.oneCell' = true := by intro r u hu; simp [Com.vals] at hu; rcases hu with rfl | rfl | rfl | rfl | rfl | rfl | rfl | rfl <;> rfl
theorem eh_ones : ∀ (r : EH), ∀ u ∈ r.vals, u.oneCell' = true := by intro r u hu; simp [EH.vals] at hu; rcases hu with rfl | rfl | rfl | rfl | rfl | rfl | rfl <;> rfl

def CloneRegsPost (l : List Reg) (n : Nat) (w : World) (e : Ending) (w' : World) : Prop :=
  ∃ A c, e = .returned (.slice A n c) ∧ w'.ownsRow w.heap.size 94 7 (.slice A n c) n (l.flatMap Reg.vals) ∧ Ext w w'
set_option maxHeartbeats 1000000 in
theorem CloneRegs_any (A : Option Addr) (n c : Nat) (l : List Reg) (w : World) (hl : Sl w 7 (Cells Reg.vals) A n l) (hn : n * 56 ≤ 140737488355328) :
    Calls Tryz.prog 125 #[.slice A n c] w (CloneRegsPost l n w) := by
  have hq := fun w => Lib.run_eql_slice_nil (P := Tryz.prog) w 23 94 A n c 0 0 Tryz.underlying23
  have HL := Lib.hid hl
  clear hl
  cases A with
  | none =>
    have hn0 : n = 0 := by
      rcases Nat.eq_zero_or_pos n with h | h
      · exact h
      · obtain ⟨_, _, h, _⟩ := HL.out.2 h; cases h
    subst hn0
    have hs0 : l = [] := List.eq_nil_of_length_eq_zero HL.out.len
    subst hs0
    simp only [Option.isNone_none] at hq
    go_enter Tryz.func125, Tryz.ntmps125
    go_wp2_with fail
    go_ret
    exact ⟨none, 0, rfl, ⟨rfl, .inl ⟨rfl, rfl⟩⟩, Ext.refl _⟩
  | some ad =>
    simp only [Option.isNone_some] at hq
    go_enter Tryz.func125, Tryz.ntmps125
    go_wp2_with (at_builtin; refine wpList_appendS rfl (.tmp 5) (.tmp 6) 23 rfl info_regI Tryz.underlying23 rfl (by decide) (by exact own_nil0 w _ _ w.heap.size (Nat.le_refl _)) (by exact rfl) (by exact rfl) (by exact Sl.ext (Cells.stays _) HL.out ((Ext.refl w).alloc _)) (fun _ => rfl) reg_ones (by omega) (by simp [maxLen]; omega) (by simp) ?_; intro v' w' hown hgr hnil)
    go_ret
    simp only [Nat.zero_add, List.nil_append] at hown
    obtain ⟨A', c', rfl, hc, _, hsl, hfr⟩ := own_sl (f := Reg.vals) (size := 7) (fun _ => rfl) HL.out.len hown
    exact ⟨A', c', rfl, hown, ((Ext.refl w).alloc _).grown hgr (fun q hq => by simp [Value.ownBlock] at hq; omega)⟩

def CloneComsPost (l : List Com) (n : Nat) (w : World) (e : Ending) (w' : World) : Prop :=
  ∃ A c, e = .returned (.slice A n c) ∧ w'.ownsRow w.heap.size 78 8 (.slice A n c) n (l.flatMap Com.vals) ∧ Ext w w'
set_option maxHeartbeats 1000000 in
theorem CloneComs_any (A : Option Addr) (n c : Nat) (l : List Com) (w : World) (hl : Sl w 8 (Cells Com.vals) A n l) (hn : n * 72 ≤ 140737488355328) :
    Calls Tryz.prog 115 #[.slice A n c] w (CloneComsPost l n w) := by
  have hq := fun w => Lib.run_eql_slice_nil (P := Tryz.prog) w 25 78 A n c 0 0 Tryz.underlying25
  have HL := Lib.hid hl
  clear hl
  cases A with
  | none =>
    have hn0 : n = 0 := by
      rcases Nat.eq_zero_or_pos n with h | h
      · exact h
      · obtain ⟨_, _, h, _⟩ := HL.out.2 h; cases h
    subst hn0
    have hs0 : l = [] := List.eq_nil_of_length_eq_zero HL.out.len
    subst hs0
    simp only [Option.isNone_none] at hq
    go_enter Tryz.func115, Tryz.ntmps115
    go_wp2_with fail
    go_ret
    exact ⟨none, 0, rfl, ⟨rfl, .inl ⟨rfl, rfl⟩⟩, Ext.refl _⟩
  | some ad =>
    simp only [Option.isNone_some] at hq
    go_enter Tryz.func115, Tryz.ntmps115
    go_wp2_with (at_builtin; refine wpList_appendS rfl (.tmp 5) (.tmp 6) 25 rfl info_comI Tryz.underlying25 rfl (by decide) (by exact own_nil0 w _ _ w.heap.size (Nat.le_refl _)) (by exact rfl) (by exact rfl) (by exact Sl.ext (Cells.stays _) HL.out ((Ext.refl w).alloc _)) (fun _ => rfl) com_ones (by omega) (by simp [maxLen]; omega) (by simp) ?_; intro v' w' hown hgr hnil)
    go_ret
    simp only [Nat.zero_add, List.nil_append] at hown
    obtain ⟨A', c', rfl, hc, _, hsl, hfr⟩ := own_sl (f := Com.vals) (size := 8) (fun _ => rfl) HL.out.len hown
    exact ⟨A', c', rfl, hown, ((Ext.refl w).alloc _).grown hgr (fun q hq => by simp [Value.ownBlock] at hq; omega)⟩

def CloneEHsPost (l : List EH) (n : Nat) (w : World) (e : Ending) (w' : World) : Prop :=
  ∃ A c, e = .returned (.slice A n c) ∧ w'.ownsRow w.heap.size 66 7 (.slice A n c) n (l.flatMap EH.vals) ∧ Ext w w'
set_option maxHeartbeats 1000000 in
theorem CloneEHs_any (A : Option Addr) (n c : Nat) (l : List EH) (w : World) (hl : Sl w 7 (Cells EH.vals) A n l) (hn : n * 88 ≤ 140737488355328) :
    Calls Tryz.prog 126 #[.slice A n c] w (CloneEHsPost l n w) := by
  have hq := fun w => Lib.run_eql_slice_nil (P := Tryz.prog) w 24 66 A n c 0 0 Tryz.underlying24
  have HL := Lib.hid hl
  clear hl
  cases A with
  | none =>
    have hn0 : n = 0 := by
      rcases Nat.eq_zero_or_pos n with h | h
      · exact h
      · obtain ⟨_, _, h, _⟩ := HL.out.2 h; cases h
    subst hn0
    have hs0 : l = [] := List.eq_nil_of_length_eq_zero HL.out.len
    subst hs0
    simp only [Option.isNone_none] at hq
    go_enter Tryz.func126, Tryz.ntmps126
    go_wp2_with fail
    go_ret
    exact ⟨none, 0, rfl, ⟨rfl, .inl ⟨rfl, rfl⟩⟩, Ext.refl _⟩
  | some ad =>
    simp only [Option.isNone_some] at hq
    go_enter Tryz.func126, Tryz.ntmps126
    go_wp2_with (at_builtin; refine wpList_appendS rfl (.tmp 5) (.tmp 6) 24 rfl info_evtI Tryz.underlying24 rfl (by decide) (by exact own_nil0 w _ _ w.heap.size (Nat.le_refl _)) (by exact rfl) (by exact rfl) (by exact Sl.ext (Cells.stays _) HL.out ((Ext.refl w).alloc _)) (fun _ => rfl) eh_ones (by omega) (by simp [maxLen]; omega) (by simp) ?_; intro v' w' hown hgr hnil)
    go_ret
    simp only [Nat.zero_add, List.nil_append] at hown
    obtain ⟨A', c', rfl, hc, _, hsl, hfr⟩ := own_sl (f := EH.vals) (size := 7) (fun _ => rfl) HL.out.len hown
    exact ⟨A', c', rfl, hown, ((Ext.refl w).alloc _).grown hgr (fun q hq => by simp [Value.ownBlock] at hq; omega)⟩

theorem RegsAt.vals {w : World} {A : Option Addr} {n : Nat} {l : List Reg} (h : RegsAt w A n l) : Sl w 7 (Cells Reg.vals) A n l := Sl.change h fun _ _ _ => cells_regC
/-- the heads of events, and that their rows are what they are -/
theorem evs_heads {w : World} {A : Option Addr} {n : Nat} {l : List Ev} (h : EvsAt w A n l) : ∃ hs : List EH, Sl w 7 (Cells EH.vals) A n hs ∧ ∀ (i : Nat) (x : EH) (e : Ev), hs[i]? = some x → l[i]? = some e → x = EH.of e x.A x.n x.c ∧ EvAt w e x.A x.n x.c := by
  have hall : ∀ i : Nat, ∃ x : EH, i < n → (∀ b off, A = some ⟨b, off, none⟩ → ∀ j u, x.vals[j]? = some u → w.cell? ⟨b, off + i * 7 + j, none⟩ = some u) ∧ ∀ e, l[i]? = some e → x = EH.of e x.A x.n x.c ∧ EvAt w e x.A x.n x.c := by
    intro i
    by_cases hi : i < n
    · obtain ⟨b, off, e, hA, he, A', n', c', h1, h2⟩ := h.at_ hi
      refine ⟨EH.of e A' n' c', fun _ => ⟨fun b' off' hA' => ?_, fun e' he' => ?_⟩⟩
      · rw [hA] at hA'
        cases hA'
        exact h1
      · rw [he] at he'
        cases he'
        exact ⟨rfl, h2⟩
    · exact ⟨⟨0, 0, 0, ⟨#[]⟩, 0, ⟨#[]⟩, none, 0, 0⟩, fun h => absurd h hi⟩
  obtain ⟨f, hf⟩ := Classical.axiomOfChoice hall
  have hat : ∀ (i : Nat) (x : EH), ((List.range n).map f)[i]? = some x → i < n ∧ x = f i := fun i x hx => by
    have hi : i < n := by
      have := (List.getElem?_eq_some_iff.1 hx).1
      simpa using this
    rw [List.getElem?_map, List.getElem?_range hi] at hx
    exact ⟨hi, (Option.some.inj hx).symm⟩
  refine ⟨(List.range n).map f, ⟨by simp, fun hn => ?_⟩, fun i x e hx he => ?_⟩
  · obtain ⟨b, off, hA, _⟩ := h.2 hn
    refine ⟨b, off, hA, fun i x hx j u hu => ?_⟩
    obtain ⟨hi, rfl⟩ := hat i x hx
    exact (hf i hi).1 b off hA j u hu
  · obtain ⟨hi, rfl⟩ := hat i x hx
    exact (hf i hi).2 e he
end Go.Proofs.YtagfedbdakmlgaaGreatDoor

/-! Open -/
namespace Go.Proofs.YtagfedbdakmlgaaGreatDoor
set_option linter.unusedVariables false
set_option linter.unusedSimpArgs false
open Go.RowKit Go.ChangeShapes Go.WideShapes Go.ChangeAt

theorem list_1 {α : Type} {l : List α} (h : l.length = 1) : ∃ v0, l = [v0] := by
  match l, h with
  | [v0], _ => exact ⟨v0, rfl⟩
theorem list_2 {α : Type} {l : List α} (h : l.length = 2) : ∃ v0 v1, l = [v0, v1] := by
  match l, h with
  | [v0, v1], _ => exact ⟨v0, v1, rfl⟩
theorem list_3 {α : Type} {l : List α} (h : l.length = 3) : ∃ v0 v1 v2, l = [v0, v1, v2] := by
  match l, h with
  | [v0, v1, v2], _ => exact ⟨v0, v1, v2, rfl⟩
theorem list_4 {α : Type} {l : List α} (h : l.length = 4) : ∃ v0 v1 v2 v3, l = [v0, v1, v2, v3] := by
  match l, h with
  | [v0, v1, v2, v3], _ => exact ⟨v0, v1, v2, v3, rfl⟩
theorem list_5 {α : Type} {l : List α} (h : l.length = 5) : ∃ v0 v1 v2 v3 v4, l = [v0, v1, v2, v3, v4] := by
  match l, h with
  | [v0, v1, v2, v3, v4], _ => exact ⟨v0, v1, v2, v3, v4, rfl⟩
theorem list_6 {α : Type} {l : List α} (h : l.length = 6) : ∃ v0 v1 v2 v3 v4 v5, l = [v0, v1, v2, v3, v4, v5] := by
  match l, h with
  | [v0, v1, v2, v3, v4, v5], _ => exact ⟨v0, v1, v2, v3, v4, v5, rfl⟩
theorem list_7 {α : Type} {l : List α} (h : l.length = 7) : ∃ v0 v1 v2 v3 v4 v5 v6, l = [v0, v1, v2, v3, v4, v5, v6] := by
  match l, h with
  | [v0, v1, v2, v3, v4, v5, v6], _ => exact ⟨v0, v1, v2, v3, v4, v5, v6, rfl⟩
theorem list_8 {α : Type} {l : List α} (h : l.length = 8) : ∃ v0 v1 v2 v3 v4 v5 v6 v7, l = [v0, v1, v2, v3, v4, v5, v6, v7] := by
  match l, h with
  | [v0, v1, v2, v3, v4, v5, v6, v7], _ => exact ⟨v0, v1, v2, v3, v4, v5, v6, v7, rfl⟩
theorem list_9 {α : Type} {l : List α} (h : l.length = 9) : ∃ v0 v1 v2 v3 v4 v5 v6 v7 v8, l = [v0, v1, v2, v3, v4, v5, v6, v7, v8] := by
  match l, h with
  | [v0, v1, v2, v3, v4, v5, v6, v7, v8], _ => exact ⟨v0, v1, v2, v3, v4, v5, v6, v7, v8, rfl⟩
theorem list_10 {α : Type} {l : List α} (h : l.length = 10) : ∃ v0 v1 v2 v3 v4 v5 v6 v7 v8 v9, l = [v0, v1, v2, v3, v4, v5, v6, v7, v8, v9] := by
  match l, h with
  | [v0, v1, v2, v3, v4, v5, v6, v7, v8, v9], _ => exact ⟨v0, v1, v2, v3, v4, v5, v6, v7, v8, v9, rfl⟩
theorem list_11 {α : Type} {l : List α} (h : l.length = 11) : ∃ v0 v1 v2 v3 v4 v5 v6 v7 v8 v9 v10, l = [v0, v1, v2, v3, v4, v5, v6, v7, v8, v9, v10] := by
  match l, h with
  | [v0, v1, v2, v3, v4, v5, v6, v7, v8, v9, v10], _ => exact ⟨v0, v1, v2, v3, v4, v5, v6, v7, v8, v9, v10, rfl⟩
theorem list_12 {α : Type} {l : List α} (h : l.length = 12) : ∃ v0 v1 v2 v3 v4 v5 v6 v7 v8 v9 v10 v11, l = [v0, v1, v2, v3, v4, v5, v6, v7, v8, v9, v10, v11] := by
  match l, h with
  | [v0, v1, v2, v3, v4, v5, v6, v7, v8, v9, v10, v11], _ => exact ⟨v0, v1, v2, v3, v4, v5, v6, v7, v8, v9, v10, v11, rfl⟩

/-- what is read of a type at these cells, in a world, where each part is of a size that Go bears -/
def Opens {α : Type} (P : Program) (W : World) (t : TypeId) (R : List Value → α → Prop) : Prop :=
  ∀ (H : Type) (enc : TypeId × Value → H) (fuel : Nat) (cs : List Value) (x : DataW H × List MemPlace), DataW.trod enc P W 0 (fun _ => true) true fuel t cs = some x → (∀ n ∈ x.1.weights P t, n ≤ reachBytes) → ∃ a, R cs a

theorem weightsAll_mem {H : Type} {P : Program} {e : TypeId} : ∀ {l : List (DataW H)} {d : DataW H} {n : Nat}, d ∈ l → n ∈ d.weights P e → n ∈ DataW.weightsAll P e l
  | [], _, _, h, _ => by cases h
  | x :: l, d, n, h, hn => by
    simp only [DataW.weightsAll, List.mem_append]
    cases List.mem_cons.1 h with
    | inl e => subst e; exact .inl hn
    | inr e => exact .inr (weightsAll_mem e hn)
theorem weightsEach_mem {H : Type} {P : Program} : ∀ {ts : List TypeId} {l : List (DataW H)} {i : Nat} {t : TypeId} {d : DataW H} {n : Nat}, ts[i]? = some t → l[i]? = some d → n ∈ d.weights P t → n ∈ DataW.weightsEach P ts l
  | [], _, _, _, _, _, h, _, _ => by simp at h
  | _ :: _, [], _, _, _, _, _, h, _ => by simp at h
  | t :: ts, x :: l, 0, _, _, n, h1, h2, hn => by
    simp only [List.getElem?_cons_zero, Option.some.injEq] at h1 h2
    subst h1 h2
    simp only [DataW.weightsEach, List.mem_append]
    exact .inl hn
  | t :: ts, x :: l, i + 1, _, _, n, h1, h2, hn => by
    simp only [List.getElem?_cons_succ] at h1 h2
    simp only [DataW.weightsEach, List.mem_append]
    exact .inr (weightsEach_mem h1 h2 hn)

theorem wt_at {H : Type} {P : Program} {ts : List TypeId} {ds : List (DataW H)} (h : (DataW.weightsEach P ts ds).all (· ≤ reachBytes) = true) {i : Nat} {t : TypeId} {d : DataW H} (ht : ts[i]? = some t) (hd : ds[i]? = some d) : ∀ n ∈ d.weights P t, n ≤ reachBytes := fun n hn => by
  have := List.all_eq_true.1 h n (weightsEach_mem ht hd hn)
  simpa using this

theorem cell_none {w : World} {b o : Nat} {sp : Option Nat} {v : Value} (h : w.cell? ⟨b, o, sp⟩ = some v) : sp = none := by
  unfold World.cell? at h
  split at h
  · split at h
    · cases h
    · rename_i hs; simpa using hs
  · cases h

/-- the cells of an element lie from offset o of block b on, and mean it -/
def Mem {α : Type} (R : List Value → α → Prop) (W : World) (b o : Nat) (a : α) : Prop := ∃ cs, (∀ j u, cs[j]? = some u → W.cell? ⟨b, o + j, none⟩ = some u) ∧ R cs a

theorem Opens.slice {α : Type} {P : Program} {W : World} {t e : TypeId} {s bts : Nat} {R : List Value → α → Prop} (ht : P.underlying t = some (.slice e)) (hc : P.cellsOf e = s) (hs : 0 < s) (hb : P.bytesOf e = bts) (hR : Opens P W e R)
    {H : Type} {enc : TypeId × Value → H} {fuel : Nat} {cs : List Value} {x : DataW H × List MemPlace} (h : DataW.trod enc P W 0 (fun _ => true) true fuel t cs = some x) (hw : ∀ n ∈ x.1.weights P t, n ≤ reachBytes) :
    ∃ A n c l, cs = [.slice A n c] ∧ n ≤ c ∧ c ≤ maxLen ∧ c * bts ≤ reachBytes ∧ Sl W s (fun w => Mem R w) A n l := by
  rcases DataW.trod_slice ht h with ⟨rfl, rfl⟩ | ⟨ad, len, cap, elems, rest, n, rfl, rfl, rfl, _, hlc, hcm, hel, hat, hsp, _⟩
  · exact ⟨none, 0, 0, [], rfl, Nat.le_refl _, by simp [maxLen], by simp [reachBytes], Sl.nil⟩
  · obtain ⟨hrl, _⟩ := hsp rfl
    simp only [DataW.weights, ht, List.mem_cons, List.mem_append, List.length_map] at hw
    have hcap : cap * bts ≤ reachBytes := by
      have := hw _ (.inl rfl)
      rw [hel, hrl, hb, show len + (cap - len) = cap by omega] at this
      exact this
    have hall : ∀ i, i < len → ∃ a b off, ad = ⟨b, off, none⟩ ∧ Mem R W b (off + i * s) a := by
      intro i hi
      have h1 := hat i hi
      have hie : i < elems.length := by omega
      rw [List.getElem?_eq_getElem hie, Option.bind_eq_some_iff] at h1
      obtain ⟨cs', h2, h3⟩ := h1
      obtain ⟨a, ha⟩ := hR H enc n cs' _ h3 (fun m hm => hw m (.inr (.inl (weightsAll_mem (List.mem_map.2 ⟨_, List.getElem_mem hie, rfl⟩) hm))))
      obtain ⟨_, hcl, hcc⟩ := World.cells?_some h2
      rw [hc] at hcl hcc
      -- the spot
      obtain ⟨b, off, sp⟩ := ad
      have h0 := hcc 0 hs
      have hspot : ∀ (i : Nat), i * P.cellsOf e = i * s := fun i => by rw [hc]
      refine ⟨a, b, off, ?_, cs', fun j u hu => ?_, ha⟩
      · -- the first element's first cell is there
        have hz := hat 0 (by omega)
        rw [List.getElem?_eq_getElem (show 0 < elems.length by omega), Option.bind_eq_some_iff] at hz
        obtain ⟨cz, hz2, _⟩ := hz
        obtain ⟨_, hzl, hzc⟩ := World.cells?_some hz2
        rw [hc] at hzl hzc
        have := hzc 0 hs
        rw [List.getElem?_eq_getElem (show 0 < cz.length by omega)] at this
        simp only [Nat.zero_mul, Addr.add, if_true] at this
        rw [cell_none this]
      · have hj : j < s := by rw [← hcl]; exact (List.getElem?_eq_some_iff.1 hu).1
        have h4 := hcc j hj
        rw [hu] at h4
        have e1 : (⟨b, off + i * s + j, none⟩ : Addr) = (Addr.add ⟨b, off, none⟩ (i * s)).add j := by rw [Addr.add_mid, Addr.add_mid]
        rw [e1]
        by_cases hz : i * s + j = 0
        · have hi0 : i * s = 0 := by omega
          have hj0 : j = 0 := by omega
          rw [hi0, hj0] at h4 ⊢
          simp only [Addr.add, if_true] at h4 ⊢
          obtain rfl := cell_none h4
          exact h4
        · have e2 : (Addr.add ⟨b, off, sp⟩ (i * s)).add j = (Addr.add ⟨b, off, none⟩ (i * s)).add j := by
            simp only [Addr.add]
            by_cases h5 : i * s = 0
            · rw [if_pos h5, if_pos h5, if_neg (by omega), if_neg (by omega)]
            · rw [if_neg h5, if_neg h5]
          rw [e2] at h4
          exact h4
    by_cases h0 : len = 0
    · subst h0
      exact ⟨some ad, 0, cap, [], rfl, hlc, hcm, hcap, Sl.nil⟩
    · obtain ⟨_, b, off, rfl, _⟩ := hall 0 (by omega)
      have hall' : ∀ i, ∃ a : Option α, i < len → ∃ a', a = some a' ∧ Mem R W b (off + i * s) a' := by
        intro i
        by_cases hi : i < len
        · obtain ⟨a, b', off', he, hm⟩ := hall i hi
          cases he
          exact ⟨some a, fun _ => ⟨a, rfl, hm⟩⟩
        · exact ⟨none, fun h => absurd h hi⟩
      obtain ⟨f, hf⟩ := Classical.axiomOfChoice hall'
      have hl : ((List.range len).filterMap f).length = len ∧ ∀ i, i < len → ((List.range len).filterMap f)[i]? = f i := by
        have key : ∀ m, m ≤ len → ((List.range m).filterMap f).length = m ∧ ∀ i, i < m → ((List.range m).filterMap f)[i]? = f i := by
          intro m
          induction m with
          | zero => intro _; exact ⟨rfl, fun i hi => absurd hi (by omega)⟩
          | succ m ih =>
            intro hm
            obtain ⟨h1, h2⟩ := ih (by omega)
            obtain ⟨a', ha', _⟩ := hf m (by omega)
            rw [List.range_succ, List.filterMap_append]
            simp only [List.filterMap_cons, ha', List.filterMap_nil]
            refine ⟨by simp [h1], fun i hi => ?_⟩
            by_cases him : i < m
            · rw [List.getElem?_append_left (by omega)]; exact h2 i him
            · have : i = m := by omega
              subst this
              rw [List.getElem?_append_right (by omega), h1, ha']
              simp
        exact key len (Nat.le_refl _)
      refine ⟨_, len, cap, (List.range len).filterMap f, rfl, hlc, hcm, hcap, hl.1, fun _ => ⟨b, off, rfl, fun i a ha => ?_⟩⟩
      have hi : i < len := by rw [← hl.1]; exact (List.getElem?_eq_some_iff.1 ha).1
      rw [hl.2 i hi] at ha
      obtain ⟨a', ha', hm⟩ := hf i hi
      rw [ha] at ha'
      cases ha'
      exact hm

theorem Opens.int {P : Program} {W : World} {t : TypeId} {k : IntKind} (ht : P.underlying t = some (.int k)) : Opens P W t (fun cs (a : Int) => cs = [.int k a] ∧ (Lit.int k a).wf = true) :=
  fun _ _ _ _ _ h _ => by obtain ⟨n, h1, _, h2⟩ := DataW.trod_int ht h; exact ⟨n, h1, h2⟩
theorem Opens.bool {P : Program} {W : World} {t : TypeId} (ht : P.underlying t = some .bool) : Opens P W t (fun cs (a : Bool) => cs = [.bool a]) :=
  fun _ _ _ _ _ h _ => by obtain ⟨n, h1, _⟩ := DataW.trod_bool ht h; exact ⟨n, h1⟩
theorem Opens.string {P : Program} {W : World} {t : TypeId} (ht : P.underlying t = some .string) : Opens P W t (fun cs (a : ByteArray) => cs = [.string a] ∧ a.size ≤ 140737488351232) :=
  fun _ _ _ _ _ h hw => by
    obtain ⟨s, h1, h2, _⟩ := DataW.trod_string ht h
    subst h2
    refine ⟨s, h1, ?_⟩
    have := hw s.data.toList.length (by simp [DataW.weights])
    simpa [reachBytes] using this
theorem Opens.mono {α β : Type} {P : Program} {W : World} {t : TypeId} {R : List Value → α → Prop} {S : List Value → β → Prop} (h : Opens P W t R) (f : α → β) (k : ∀ cs a, R cs a → S cs (f a)) : Opens P W t S :=
  fun H enc fuel cs x h1 h2 => by obtain ⟨a, ha⟩ := h H enc fuel cs x h1 h2; exact ⟨f a, k cs a ha⟩

/-- the fields of a struct, each read by itself -/
theorem Opens.fields {P : Program} {W : World} {t : TypeId} {fs : Array Field} (ht : P.underlying t = some (.struct fs)) {H : Type} {enc : TypeId × Value → H} {fuel : Nat} {cs : List Value} {x : DataW H × List MemPlace}
    (h : DataW.trod enc P W 0 (fun _ => true) true fuel t cs = some x) (hw : ∀ n ∈ x.1.weights P t, n ≤ reachBytes) :
    cs.length = P.cellsOf t ∧ ∀ (i : Nat) (f : Field), fs[i]? = some f → ∀ {α : Type} {R : List Value → α → Prop}, Opens P W f.type R → ∃ a, R ((cs.drop f.offset).take (P.cellsOf f.type)) a := by
  obtain ⟨xs, n, rfl, rfl, hl, hlen, hf⟩ := DataW.trod_struct ht h
  refine ⟨hl, fun i f hif α R hR => ?_⟩
  have h1 := hf i f hif
  have hi : i < xs.length := by rw [hlen]; exact (Array.getElem?_eq_some_iff.1 hif).1
  rw [List.getElem?_eq_getElem hi] at h1
  refine hR H enc n _ _ h1 (fun m hm => hw m ?_)
  simp only [DataW.weights, ht]
  refine weightsEach_mem (i := i) (t := f.type) (d := xs[i].1) ?_ ?_ hm
  · rw [List.getElem?_map]
    have : fs.toList[i]? = some f := by simpa using hif
    rw [this]; rfl
  · rw [List.getElem?_map, List.getElem?_eq_getElem hi]; rfl
end Go.Proofs.YtagfedbdakmlgaaGreatDoor
