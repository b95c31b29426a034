/- Laid together: Frames in another rate, plainly. Drifts and the worst of them, plainly. Documents in another rate, plainly. What an accepted document is, plainly. The walks of the references' rates: Valid, CanDrop, Nominal, Dropped, Day. The walks of timebase.Time, Frame, Convert and of retime.known, Span. Lemmas for the walks of Retime: calls of four arguments, appends in drawn regions, spans in their bounds. The walk of the reference's copy of a document. -/
import Derived.Test.YtagfedbdakmlgaaDoorPk13
import Derived.Test.YtagfedbdakmlgaaDoorPk06
import Derived.Test.YtagfedbdakmlgaaDoorPk04
import Derived.Test.YtagfedbdakmlgaaDoorPk12
import Derived.Test.YtagfedbdakmlgaaDoorPk09
import Derived.Test.YtagfedbdakmlgaaDoorPk11
import Derived.Test.YtagfedbdakmlgaaDoorPk01

/-! ConvP -/
namespace Go.Proofs.YtagfedbdakmlgaaDoor
set_option linter.unusedVariables false
set_option linter.unusedSimpArgs false
open Go.RowKit

theorem ticks_bd {r : Int} (h : rOk r = true) : 2002 ≤ rTicks r ∧ rTicks r ≤ 5005 := by
  have := of_decide_eq_true h
  have hr : r = 1 ∨ r = 2 ∨ r = 3 ∨ r = 4 ∨ r = 5 ∨ r = 6 ∨ r = 7 := by omega
  rcases hr with rfl | rfl | rfl | rfl | rfl | rfl | rfl <;> decide
theorem ticks_bad {r : Int} (h : rOk r = false) : rTicks r = 0 := by
  have := of_decide_eq_false h
  unfold rTicks
  repeat (rw [if_neg (by omega)])
/-- the tick at which a frame begins, and the error -/
def timeT (r f : Int) : Int × Int := if rOk r = false then (0, 3) else if f < 0 ∨ 10378368000 / rTicks r < f then (0, 2) else (f * rTicks r, 0)
/-- the frame of a tick (mode m), and the error -/
def frameT (r t m : Int) : Int × Int := if rOk r = false then (0, 3) else if t < 0 ∨ 10378368000 < t then (0, 2) else if 10378368000 < quoI t (rTicks r) m * rTicks r then (0, 2) else (quoI t (rTicks r) m, 0)
def convT (a b f m : Int) : Int × Int := if rOk a = false ∨ rOk b = false then (0, 3) else if (timeT a f).2 ≠ 0 then (0, (timeT a f).2) else frameT b (timeT a f).1 m
theorem timeT_ok {r f : Int} (h : (timeT r f).2 = 0) : rOk r = true ∧ 0 ≤ f ∧ f ≤ 10378368000 / rTicks r ∧ (timeT r f).1 = f * rTicks r ∧ 0 ≤ f * rTicks r ∧ f * rTicks r ≤ 10378368000 := by
  unfold timeT at h ⊢
  split at h
  · simp at h
  · rename_i h1
    have ho : rOk r = true := by simpa using h1
    obtain ⟨t1, t2⟩ := ticks_bd ho
    split at h
    · simp at h
    · rename_i h2
      rw [if_neg h1, if_neg h2]
      refine ⟨ho, by omega, by omega, rfl, Int.mul_nonneg (by omega) (by omega), ?_⟩
      have : f ≤ 10378368000 / rTicks r := by omega
      exact Int.le_trans (Int.mul_le_mul_of_nonneg_right this (by omega)) (Int.ediv_mul_le _ (by omega))
theorem quo_near {n d : Int} (hn : 0 ≤ n) (hd : 0 < d) : 2 * (quoI n d 2 * d - n) ≤ d ∧ -d ≤ 2 * (quoI n d 2 * d - n) ∧ 0 ≤ quoI n d 2 := by
  have h1 := Int.emod_nonneg n (show d ≠ 0 by omega)
  have h2 := Int.emod_lt_of_pos n hd
  have h3 := Int.mul_ediv_add_emod n d
  have h4 : 0 ≤ n / d := Int.ediv_nonneg hn (by omega)
  have h5 : d * (n / d) = n / d * d := Int.mul_comm ..
  unfold quoI awayB
  by_cases hr : n % d = 0
  · simp only [hr, if_true]
    simp
    omega
  · simp only [hr, if_false]
    by_cases hx : d - n % d ≤ n % d
    · simp [hx]
      have : (n / d + 1) * d = n / d * d + d := by rw [Int.add_mul, Int.one_mul]
      omega
    · simp [hx]
      omega
/-- the frame nearest to n is k, where k is closer than half a frame -/
theorem quo_unique {n d k : Int} (hn : 0 ≤ n) (hd : 0 < d) (h1 : 2 * (k * d - n) < d) (h2 : -d < 2 * (k * d - n)) : quoI n d 2 = k := by
  obtain ⟨a1, a2, _⟩ := quo_near hn hd
  generalize quoI n d 2 = q at *
  have hqk : (q - k) * d = q * d - k * d := by rw [Int.sub_mul]
  have h3 : (q - k) * d < d := by omega
  have h4 : -d < (q - k) * d := by omega
  have h5 : q - k < 1 := by
    by_cases h : q - k < 1
    · exact h
    · have : 1 * d ≤ (q - k) * d := Int.mul_le_mul_of_nonneg_right (by omega) (by omega)
      omega
  have h6 : -1 < q - k := by
    by_cases h : -1 < q - k
    · exact h
    · have : (q - k) * d ≤ (-1) * d := Int.mul_le_mul_of_nonneg_right (by omega) (by omega)
      omega
  omega
theorem quo_mono {n m d : Int} (hn : 0 ≤ n) (hd : 0 < d) (h : n + d ≤ m) : quoI n d 2 + 1 ≤ quoI m d 2 := by
  have e : quoI (n + d) d 2 = quoI n d 2 + 1 := by
    unfold quoI
    rw [Int.add_emod_right, Int.add_ediv_of_dvd_right (Int.dvd_refl d), Int.ediv_self (by omega)]
    split <;> omega
  have mono : ∀ x y, 0 ≤ x → x ≤ y → quoI x d 2 ≤ quoI y d 2 := by
    intro x y hx hxy
    obtain ⟨a1, a2, _⟩ := quo_near hx hd
    obtain ⟨b1, b2, _⟩ := quo_near (show 0 ≤ y by omega) hd
    by_cases hlt : quoI x d 2 ≤ quoI y d 2
    · exact hlt
    · have hq : quoI y d 2 + 1 ≤ quoI x d 2 := by omega
      have h5 : (quoI y d 2 + 1) * d ≤ quoI x d 2 * d := Int.mul_le_mul_of_nonneg_right hq (by omega)
      rw [Int.add_mul, Int.one_mul] at h5
      have hxy2 : x = y := by omega
      rw [hxy2] at hlt
      omega
  have := mono (n + d) m (by omega) h
  omega

/-- the span that a span becomes, and the error -/
def spanT (a b i o m : Int) : (Int × Int) × Int :=
  if rOk a = false ∨ rOk b = false then ((0, 0), 3) else if ¬ (m = 1 ∨ m = 2) ∨ o ≤ i then ((0, 0), 1) else if i < 0 ∨ 5184000 < o then ((0, 0), 2) else if m = 2 then ((i, o), 0) else
    if (convT a b i 2).2 ≠ 0 then ((0, 0), (convT a b i 2).2) else if (convT a b o 2).2 ≠ 0 then ((0, 0), (convT a b o 2).2) else
      if 5184000 < max (convT a b o 2).1 ((convT a b i 2).1 + 1) then ((0, 0), 2) else (((convT a b i 2).1, max (convT a b o 2).1 ((convT a b i 2).1 + 1)), 0)
theorem spanT_bad {a b i o m : Int} (h : (spanT a b i o m).2 ≠ 0) : (spanT a b i o m).1 = (0, 0) := by
  unfold spanT at h ⊢
  by_cases h1 : rOk a = false ∨ rOk b = false
  · rw [if_pos h1]
  rw [if_neg h1] at h ⊢
  by_cases h2 : ¬ (m = 1 ∨ m = 2) ∨ o ≤ i
  · rw [if_pos h2]
  rw [if_neg h2] at h ⊢
  by_cases h3 : i < 0 ∨ 5184000 < o
  · rw [if_pos h3]
  rw [if_neg h3] at h ⊢
  by_cases h4 : m = 2
  · rw [if_pos h4] at h; exact absurd rfl h
  rw [if_neg h4] at h ⊢
  by_cases h5 : (convT a b i 2).2 ≠ 0
  · rw [if_pos h5]
  rw [if_neg h5] at h ⊢
  by_cases h6 : (convT a b o 2).2 ≠ 0
  · rw [if_pos h6]
  rw [if_neg h6] at h ⊢
  by_cases h7 : 5184000 < max (convT a b o 2).1 ((convT a b i 2).1 + 1)
  · rw [if_pos h7]
  · rw [if_neg h7] at h; exact absurd rfl h
theorem convT_ok {a b f : Int} (h : (convT a b f 2).2 = 0) : rOk a = true ∧ rOk b = true ∧ 0 ≤ f ∧ 0 ≤ f * rTicks a ∧ f * rTicks a ≤ 10378368000 ∧ (convT a b f 2).1 = quoI (f * rTicks a) (rTicks b) 2 ∧ quoI (f * rTicks a) (rTicks b) 2 * rTicks b ≤ 10378368000 := by
  unfold convT at h ⊢
  split at h
  · simp at h
  · rename_i h1
    have ha : rOk a = true := by
      cases hx : rOk a
      · exact absurd (.inl hx) h1
      · rfl
    have hb : rOk b = true := by
      cases hx : rOk b
      · exact absurd (.inr hx) h1
      · rfl
    rw [if_neg h1]
    split at h
    · rename_i h2; simp at h; exact absurd h h2
    · rename_i h2
      rw [if_neg h2]
      obtain ⟨_, k2, _, k4, k5, k6⟩ := timeT_ok (r := a) (f := f) (by simpa using h2)
      rw [k4] at h ⊢
      unfold frameT at h ⊢
      rw [if_neg (by simp [hb]), if_neg (by omega)] at h ⊢
      split at h
      · simp at h
      · rename_i h3
        rw [if_neg h3]
        exact ⟨ha, hb, k2, k5, k6, rfl, by omega⟩
/-- what the span is, where the times are kept -/
theorem spanT_time {a b i o : Int} (h : (spanT a b i o 1).2 = 0) : rOk a = true ∧ rOk b = true ∧ 0 ≤ i ∧ i < o ∧ o ≤ 5184000 ∧ (convT a b i 2).2 = 0 ∧ (convT a b o 2).2 = 0 ∧ (spanT a b i o 1).1 = ((convT a b i 2).1, max (convT a b o 2).1 ((convT a b i 2).1 + 1)) ∧ max (convT a b o 2).1 ((convT a b i 2).1 + 1) ≤ 5184000 := by
  unfold spanT at h ⊢
  by_cases h1 : rOk a = false ∨ rOk b = false
  · rw [if_pos h1] at h; simp at h
  rw [if_neg h1] at h ⊢
  by_cases h2 : ¬ ((1 : Int) = 1 ∨ (1 : Int) = 2) ∨ o ≤ i
  · rw [if_pos h2] at h; simp at h
  rw [if_neg h2] at h ⊢
  by_cases h3 : i < 0 ∨ 5184000 < o
  · rw [if_pos h3] at h; simp at h
  rw [if_neg h3, if_neg (by decide)] at h ⊢
  by_cases h4 : (convT a b i 2).2 ≠ 0
  · rw [if_pos h4] at h; exact absurd h h4
  rw [if_neg h4] at h ⊢
  by_cases h5 : (convT a b o 2).2 ≠ 0
  · rw [if_pos h5] at h; exact absurd h h5
  rw [if_neg h5] at h ⊢
  by_cases h6 : 5184000 < max (convT a b o 2).1 ((convT a b i 2).1 + 1)
  · rw [if_pos h6] at h; simp at h
  rw [if_neg h6]
  refine ⟨?_, ?_, by omega, by omega, by omega, by simpa using h4, by simpa using h5, rfl, by omega⟩
  · cases hx : rOk a
    · exact absurd (.inl hx) h1
    · rfl
  · cases hx : rOk b
    · exact absurd (.inr hx) h1
    · rfl
theorem spanT_frames {a b i o : Int} (h : (spanT a b i o 2).2 = 0) : (spanT a b i o 2).1 = (i, o) := by
  unfold spanT at h ⊢
  by_cases h1 : rOk a = false ∨ rOk b = false
  · rw [if_pos h1] at h; simp at h
  rw [if_neg h1] at h ⊢
  by_cases h2 : ¬ ((2 : Int) = 1 ∨ (2 : Int) = 2) ∨ o ≤ i
  · rw [if_pos h2] at h; simp at h
  rw [if_neg h2] at h ⊢
  by_cases h3 : i < 0 ∨ 5184000 < o
  · rw [if_pos h3] at h; simp at h
  rw [if_neg h3, if_pos rfl]
/-- with the frames kept a span comes back from every rate -/
theorem back_frames {a b i o : Int} (h : (spanT a b i o 2).2 = 0) (h2 : (spanT b a (spanT a b i o 2).1.1 (spanT a b i o 2).1.2 2).2 = 0) : (spanT b a (spanT a b i o 2).1.1 (spanT a b i o 2).1.2 2).1 = (i, o) := by
  rw [spanT_frames h2, spanT_frames h]
/-- with the times kept a span comes back from a rate whose frames are not longer -/
theorem back_times {a b i o : Int} (hab : rTicks b ≤ rTicks a) (h : (spanT a b i o 1).2 = 0) (h2 : (spanT b a (spanT a b i o 1).1.1 (spanT a b i o 1).1.2 1).2 = 0) : (spanT b a (spanT a b i o 1).1.1 (spanT a b i o 1).1.2 1).1 = (i, o) := by
  obtain ⟨ha, hb, h0, hio, ho, ci, co, e1, _⟩ := spanT_time h
  obtain ⟨t1, t2⟩ := ticks_bd ha
  obtain ⟨t3, t4⟩ := ticks_bd hb
  obtain ⟨_, _, _, i1, i2, i3, _⟩ := convT_ok ci
  obtain ⟨_, _, _, o1, o2, o3, _⟩ := convT_ok co
  have hstep : i * rTicks a + rTicks b ≤ o * rTicks a := by
    have : (i + 1) * rTicks a ≤ o * rTicks a := Int.mul_le_mul_of_nonneg_right (by omega) (by omega)
    rw [Int.add_mul, Int.one_mul] at this
    omega
  have hmono := quo_mono i1 (show 0 < rTicks b by omega) hstep
  have emax : max (convT a b o 2).1 ((convT a b i 2).1 + 1) = (convT a b o 2).1 := by rw [i3, o3]; omega
  rw [e1, emax] at h2 ⊢
  dsimp only at h2 ⊢
  obtain ⟨_, _, _, _, _, di, d_o, e2, _⟩ := spanT_time h2
  obtain ⟨_, _, _, p1, _, p3, _⟩ := convT_ok di
  obtain ⟨_, _, _, q1, _, q3, _⟩ := convT_ok d_o
  obtain ⟨n1, n2, _⟩ := quo_near i1 (show 0 < rTicks b by omega)
  obtain ⟨m1, m2, _⟩ := quo_near o1 (show 0 < rTicks b by omega)
  have back : ∀ k q : Int, 0 ≤ q * rTicks b → 2 * (q * rTicks b - k * rTicks a) ≤ rTicks b → -rTicks b ≤ 2 * (q * rTicks b - k * rTicks a) → quoI (q * rTicks b) (rTicks a) 2 = k := by
    intro k q hq g1 g2
    by_cases hlt : rTicks b < rTicks a
    · exact quo_unique hq (by omega) (by omega) (by omega)
    · have he : rTicks b = rTicks a := by omega
      rw [he] at g1 g2 hq ⊢
      have hz : (q - k) * rTicks a = q * rTicks a - k * rTicks a := Int.sub_mul ..
      have hq' : q = k := by
        rcases Int.lt_trichotomy q k with h | h | h
        · have : (q - k) * rTicks a ≤ (-1) * rTicks a := Int.mul_le_mul_of_nonneg_right (by omega) (by omega)
          omega
        · exact h
        · have : 1 * rTicks a ≤ (q - k) * rTicks a := Int.mul_le_mul_of_nonneg_right (by omega) (by omega)
          omega
      subst hq'
      exact quo_unique hq (by omega) (by omega) (by omega)
  have bi : (convT b a (convT a b i 2).1 2).1 = i := by
    rw [p3, i3]
    exact back i _ (by rw [← i3]; exact p1) n1 n2
  have bo : (convT b a (convT a b o 2).1 2).1 = o := by
    rw [q3, o3]
    exact back o _ (by rw [← o3]; exact q1) m1 m2
  rw [e2, bi, bo]
  have : max o (i + 1) = o := by omega
  rw [this]
end Go.Proofs.YtagfedbdakmlgaaDoor

/-! WorstP -/
namespace Go.Proofs.YtagfedbdakmlgaaDoor
set_option linter.unusedVariables false
set_option linter.unusedSimpArgs false
open Go.RowKit

/-- a drift -/
structure Dri where
  id : Int
  inn : Int
  out : Int
  deriving DecidableEq
def Dri.vals (d : Dri) : List Value := [.int .i64 d.id, .int .i64 d.inn, .int .i64 d.out]
def DrisAt (w : World) (A : Option Addr) (n : Nat) (l : List Dri) : Prop := Sl w 3 (Cells Dri.vals) A n l
theorem DrisAt.ext {w w1 : World} {A : Option Addr} {n : Nat} {l : List Dri} (h : DrisAt w A n l) (k : Ext w w1) : DrisAt w1 A n l := Sl.ext (Cells.stays _) h k
theorem DrisAt.at3 {w : World} {A : Option Addr} {n : Nat} {l : List Dri} (h : DrisAt w A n l) {i : Nat} (hi : i < n) : ∃ b off d, A = some ⟨b, off, none⟩ ∧ l[i]? = some d ∧
    (w.cell? ⟨b, off + i * 3, none⟩ = some (.int .i64 d.id) ∧ w.cell? ⟨b, off + i * 3 + 1, none⟩ = some (.int .i64 d.inn) ∧ w.cell? ⟨b, off + i * 3 + 2, none⟩ = some (.int .i64 d.out)) := by
  obtain ⟨b, off, c, hA, hc, hC⟩ := h.at_ hi
  exact ⟨b, off, c, hA, hc, by simpa using hC 0 _ rfl, hC 1 _ rfl, hC 2 _ rfl⟩
/-- the numbers fit -/
def Dri.Fits (d : Dri) : Prop := (-9223372036854775808 ≤ d.inn ∧ d.inn ≤ 9223372036854775807) ∧ (-9223372036854775808 ≤ d.out ∧ d.out ≤ 9223372036854775807)
/-- the size of a drift -/
def dsz (n : Int) : Int := if n = -9223372036854775808 then 9223372036854775807 else if n < 0 then -n else n
theorem dsz_bd {n : Int} (h1 : -9223372036854775808 ≤ n) (h2 : n ≤ 9223372036854775807) : 0 ≤ dsz n ∧ dsz n ≤ 9223372036854775807 := by
  unfold dsz
  split
  · omega
  · split <;> omega
def worstStep (n : Int) (d : Dri) : Int := max (max n (dsz d.inn)) (dsz d.out)
def worst (l : List Dri) : Int := l.foldl worstStep 0
theorem worst_snoc (l : List Dri) (d : Dri) : worst (l ++ [d]) = worstStep (worst l) d := by simp [worst, List.foldl_append]
theorem worst_take {l : List Dri} {k : Nat} {d : Dri} (h : l[k]? = some d) : worst (l.take (k + 1)) = worstStep (worst (l.take k)) d := by rw [take_snoc' l k d h, worst_snoc]
theorem worst_ge : ∀ (l : List Dri) (n : Int), n ≤ l.foldl worstStep n ∧ (∀ d ∈ l, dsz d.inn ≤ l.foldl worstStep n ∧ dsz d.out ≤ l.foldl worstStep n) ∧ (l.foldl worstStep n = n ∨ ∃ d ∈ l, dsz d.inn = l.foldl worstStep n ∨ dsz d.out = l.foldl worstStep n)
  | [], n => ⟨Int.le_refl _, by simp, .inl rfl⟩
  | x :: l, n => by
    obtain ⟨h1, h2, h3⟩ := worst_ge l (worstStep n x)
    rw [List.foldl_cons]
    have hs : n ≤ worstStep n x ∧ dsz x.inn ≤ worstStep n x ∧ dsz x.out ≤ worstStep n x ∧ (worstStep n x = n ∨ dsz x.inn = worstStep n x ∨ dsz x.out = worstStep n x) := by unfold worstStep; omega
    refine ⟨by omega, fun d hd => ?_, ?_⟩
    · rcases List.mem_cons.1 hd with rfl | hd
      · omega
      · exact h2 d hd
    · rcases h3 with h3 | ⟨d, hd, h3⟩
      · rw [h3]
        rcases hs.2.2.2 with h | h | h
        · exact .inl h
        · exact .inr ⟨x, by simp, .inl h⟩
        · exact .inr ⟨x, by simp, .inr h⟩
      · exact .inr ⟨d, by simp [hd], h3⟩
theorem worst_bd {l : List Dri} (hl : ∀ d ∈ l, d.Fits) : 0 ≤ worst l ∧ worst l ≤ 9223372036854775807 := by
  obtain ⟨h1, h2, h3⟩ := worst_ge l 0
  refine ⟨h1, ?_⟩
  rcases h3 with h3 | ⟨d, hd, h3 | h3⟩
  · show l.foldl worstStep 0 ≤ _; omega
  · have := dsz_bd (hl d hd).1.1 (hl d hd).1.2; show l.foldl worstStep 0 ≤ _; omega
  · have := dsz_bd (hl d hd).2.1 (hl d hd).2.2; show l.foldl worstStep 0 ≤ _; omega
/-- whether the worst is met among these -/
def metB (n : Int) (l : List Dri) : Bool := decide (n = 0) || l.any fun d => decide (dsz d.inn = n) || decide (dsz d.out = n)
theorem met_all (l : List Dri) : metB (worst l) l = true := by
  unfold metB
  rcases (worst_ge l 0).2.2 with h | ⟨d, hd, h⟩
  · have : worst l = 0 := h
    simp [this]
  · simp only [Bool.or_eq_true, List.any_eq_true, decide_eq_true_eq]
    exact .inr ⟨d, hd, h⟩
theorem met_take {l : List Dri} {k : Nat} {d : Dri} {n : Int} (h : l[k]? = some d) : metB n (l.take (k + 1)) = (metB n (l.take k) || decide (dsz d.inn = n) || decide (dsz d.out = n)) := by
  rw [take_snoc' l k d h]
  unfold metB
  simp [Bool.or_assoc]
/-- the number whose size is taken -/
def dfix (x : Int) : Int := if x = -9223372036854775808 then -9223372036854775807 else x
theorem dfix_size (x : Int) : dsz x = if dfix x < 0 then -dfix x else dfix x := by
  unfold dsz dfix
  by_cases h : x = -9223372036854775808
  · simp [h]
  · simp [h]
theorem dfix_le {x n : Int} (h : dsz x ≤ n) : ¬ n < dfix x ∧ ¬ n < -dfix x := by
  rw [dfix_size] at h
  split at h <;> omega
theorem dfix_met {x n : Int} (hn : 0 ≤ n) : (decide (dfix x = n) || decide (-dfix x = n)) = decide (dsz x = n) := by
  rw [dfix_size, ← Bool.decide_or]
  congr 1
  apply propext
  split <;> omega
end Go.Proofs.YtagfedbdakmlgaaDoor

/-! RetP -/
namespace Go.Proofs.YtagfedbdakmlgaaDoor
set_option linter.unusedVariables false
set_option linter.unusedSimpArgs false
open Go.RowKit

/-- the document without anything -/
def Doc.zero : Doc := ⟨⟨#[]⟩, ⟨#[]⟩, 0, false, 0, [], [], []⟩
/-- the span of an event in another rate, and the error -/
def Ev.span (a b m : Int) (x : Ev) : (Int × Int) × Int := spanT a b x.inn x.out m
/-- the first error of the spans -/
def retErr (a b m : Int) : List Ev → Int
  | [] => 0
  | x :: l => if (x.span a b m).2 ≠ 0 then (x.span a b m).2 else retErr a b m l
/-- the event at place k in another rate -/
def retEv (a b m : Int) (k : Nat) (x : Ev) : Ev := ⟨(k : Int) + 1, (x.span a b m).1.1, (x.span a b m).1.2, x.region, x.kind, x.speaker, x.rows⟩
def retDri (a b m : Int) (k : Nat) (x : Ev) : Dri := ⟨(k : Int) + 1, (x.span a b m).1.1 * rTicks b - x.inn * rTicks a, (x.span a b m).1.2 * rTicks b - x.out * rTicks a⟩
def retEvs (a b m : Int) (l : List Ev) : List Ev := l.mapIdx (retEv a b m)
def retDris (a b m : Int) (l : List Ev) : List Dri := l.mapIdx (retDri a b m)
/-- the new number of an event -/
def newId (l : List Ev) (id : Int) : Int := match findE l id with | some k => (k : Int) + 1 | none => 0
/-- the comments that are not lost, numbered behind a number -/
def retComs (evs : List Ev) : Int → List Com → List Com
  | _, [] => []
  | p, c :: l => if c.lost = true then retComs evs p l else ⟨p + 1, newId evs c.ev, c.fr, c.til, c.author, c.text, c.done, c.lost⟩ :: retComs evs (p + 1) l
def liveN (l : List Com) : Nat := (l.filter fun c => !c.lost).length
def Doc.ret (d : Doc) (b : Int) (drop : Bool) (m : Int) : Doc :=
  ⟨d.title, d.lang, b, drop, (d.evs.length : Int) + liveN d.coms, d.regs, retEvs d.rate b m d.evs, retComs d.evs d.evs.length d.coms⟩
/-- the error of a document in another rate -/
def Doc.retE (d : Doc) (b : Int) (drop : Bool) (m : Int) : Int :=
  if d.err ≠ 0 then d.err else if rateOkB b drop = false then 13 else if ¬ (m = 1 ∨ m = 2) then 1 else retErr d.rate b m d.evs
/-- the document, the drifts -/
def Doc.retD (d : Doc) (b : Int) (drop : Bool) (m : Int) : Doc := if d.retE b drop m = 0 then d.ret b drop m else Doc.zero
def Doc.retL (d : Doc) (b : Int) (drop : Bool) (m : Int) : List Dri := if d.retE b drop m = 0 then retDris d.rate b m d.evs else []

theorem mapIdx_snoc {α β : Type} (f : Nat → α → β) (l : List α) (x : α) : (l ++ [x]).mapIdx f = l.mapIdx f ++ [f l.length x] := by simp [List.mapIdx_append]
theorem mapIdx_take {α β : Type} (f : Nat → α → β) {l : List α} {k : Nat} {x : α} (h : l[k]? = some x) : (l.take (k + 1)).mapIdx f = (l.take k).mapIdx f ++ [f k x] := by
  have := (List.getElem?_eq_some_iff.1 h).1
  rw [take_snoc' l k x h, mapIdx_snoc, List.length_take, Nat.min_eq_left (by omega)]
theorem retErr_step {a b m : Int} {l : List Ev} {k : Nat} {x : Ev} {E : Int} (h : l[k]? = some x) (hP : E = retErr a b m (l.drop k)) : ((x.span a b m).2 ≠ 0 → E = (x.span a b m).2) ∧ ((x.span a b m).2 = 0 → E = retErr a b m (l.drop (k + 1))) := by
  rw [drop_at l k x h] at hP
  unfold retErr at hP
  refine ⟨fun h => by rw [if_pos h] at hP; exact hP, fun h => by rw [if_neg (by simpa using h)] at hP; exact hP⟩
theorem retErr_all {a b m : Int} : ∀ {l : List Ev}, retErr a b m l = 0 → ∀ x ∈ l, (x.span a b m).2 = 0
  | [], _, x, hx => by simp at hx
  | y :: l, h, x, hx => by
    unfold retErr at h
    split at h
    · rename_i h1; exact absurd h h1
    · rename_i h1
      rcases List.mem_cons.1 hx with rfl | hx
      · simpa using h1
      · exact retErr_all h x hx
theorem retComs_snoc (evs : List Ev) : ∀ (l : List Com) (p : Int) (c : Com), retComs evs p (l ++ [c]) = retComs evs p l ++ (if c.lost = true then [] else [⟨p + liveN l + 1, newId evs c.ev, c.fr, c.til, c.author, c.text, c.done, c.lost⟩])
  | [], p, c => by simp [retComs, liveN]
  | y :: l, p, c => by
    rw [List.cons_append, retComs, retComs]
    cases hy : y.lost
    · have hl : (liveN (y :: l) : Int) = 1 + (liveN l : Int) := by simp [liveN, List.filter_cons, hy]; omega
      have hn : ¬ (false = true) := by decide
      rw [if_neg hn, if_neg hn, retComs_snoc evs l (p + 1) c, List.cons_append, hl]
      rw [show p + 1 + (liveN l : Int) + 1 = p + (1 + (liveN l : Int)) + 1 by omega]
    · have hl : liveN (y :: l) = liveN l := by simp [liveN, List.filter_cons, hy]
      rw [if_pos rfl, if_pos rfl, retComs_snoc evs l p c, hl]
theorem liveN_snoc (l : List Com) (c : Com) : liveN (l ++ [c]) = liveN l + if c.lost = true then 0 else 1 := by
  unfold liveN
  rw [List.filter_append, List.length_append]
  cases h : c.lost <;> simp [List.filter_cons, h]
theorem liveN_le (l : List Com) : liveN l ≤ l.length := List.length_filter_le _ _
theorem retComs_len (evs : List Ev) : ∀ (l : List Com) (p : Int), (retComs evs p l).length = liveN l
  | [], p => by simp [retComs, liveN]
  | y :: l, p => by
    rw [retComs]
    cases hy : y.lost
    · rw [if_neg (by decide), List.length_cons, retComs_len evs l (p + 1)]; simp [liveN, List.filter_cons, hy]
    · rw [if_pos rfl, retComs_len evs l p]; simp [liveN, List.filter_cons, hy]
/-- the last of the numbered comments -/
theorem retComs_take (evs : List Ev) {l : List Com} {k : Nat} {c : Com} (h : l[k]? = some c) (p : Int) :
    retComs evs p (l.take (k + 1)) = retComs evs p (l.take k) ++ (if c.lost = true then [] else [⟨p + liveN (l.take k) + 1, newId evs c.ev, c.fr, c.til, c.author, c.text, c.done, c.lost⟩]) := by
  rw [take_snoc' l k c h, retComs_snoc]
theorem liveN_take {l : List Com} {k : Nat} {c : Com} (h : l[k]? = some c) : liveN (l.take (k + 1)) = liveN (l.take k) + if c.lost = true then 0 else 1 := by
  rw [take_snoc' l k c h, liveN_snoc]
end Go.Proofs.YtagfedbdakmlgaaDoor

/-! DocV -/
namespace Go.Proofs.YtagfedbdakmlgaaDoor
set_option linter.unusedVariables false
set_option linter.unusedSimpArgs false
open Go.RowKit

theorem doc_ok {d : Doc} (h : d.err = 0) : d.headErr = 0 ∧ regsErr d.regs = 0 ∧ d.evs.length ≤ 400 ∧ evsLoop d.regs d.last [] d.evs = 0 ∧ d.coms.length ≤ 64 ∧ comsLoop d.last d.evs none d.coms = 0 := by
  unfold Doc.err at h
  split at h
  · rename_i h1; exact absurd h h1
  · rename_i h1
    split at h
    · rename_i h2; exact absurd h h2
    · rename_i h2
      split at h
      · simp at h
      · rename_i h3
        split at h
        · rename_i h4; exact absurd h h4
        · rename_i h4
          split at h
          · simp at h
          · rename_i h5
            exact ⟨by simpa using h1, by simpa using h2, by omega, by simpa using h4, by omega, h⟩
theorem head_ok' {d : Doc} (h : d.headErr = 0) : vld d.title = true ∧ d.title.size ≤ 400 ∧ ¬ (d.lang.toList.isEmpty = false ∧ nameB d.lang = false) ∧ rateOkB d.rate d.drop = true ∧ 0 ≤ d.last ∧ d.last ≤ 1099511627776 := by
  unfold Doc.headErr at h
  split at h
  · simp at h
  · rename_i h1
    split at h
    · simp at h
    · rename_i h2
      split at h
      · simp at h
      · rename_i h3
        split at h
        · simp at h
        · rename_i h4
          split at h
          · simp at h
          · rename_i h5
            exact ⟨by simpa using h1, by omega, h3, by simpa using h4, by omega, by omega⟩
/-- each event behind those ahead of it -/
theorem evs_ok {regs : List Reg} {last : Int} : ∀ {l pre : List Ev}, evsLoop regs last pre l = 0 → ∀ (k : Nat) (x : Ev), l[k]? = some x →
    x.err regs = 0 ∧ x.id ≤ last ∧ ¬ (((pre ++ l.take k).getLast?.map fun p => lessB p x) = some false) ∧ findE (pre ++ l.take k) x.id = none
  | [], pre, _, k, x, hx => by simp at hx
  | y :: l, pre, h, 0, x, hx => by
    simp at hx; subst hx
    rw [evs_cons] at h
    split at h
    · rename_i h1; exact absurd h h1
    · rename_i h1
      have h1' : evErr regs last pre y = 0 := by simpa using h1
      unfold evErr at h1'
      split at h1'
      · rename_i h2; exact absurd h1' h2
      · rename_i h2
        split at h1'
        · simp at h1'
        · rename_i h3
          split at h1'
          · simp at h1'
          · rename_i h4
            split at h1'
            · simp at h1'
            · rename_i h5
              refine ⟨by simpa using h2, by omega, by simpa using h4, ?_⟩
              simp only [List.take_zero, List.append_nil]
              cases hf : findE pre y.id with
              | none => rfl
              | some j => rw [hf] at h5; simp at h5
  | y :: l, pre, h, k + 1, x, hx => by
    rw [evs_cons] at h
    split at h
    · rename_i h1; exact absurd h h1
    · have := evs_ok h k x (by simpa using hx)
      simpa using this
theorem evs_all {regs : List Reg} {last : Int} : ∀ {l pre : List Ev}, (∀ (k : Nat) (x : Ev), l[k]? = some x → evErr regs last (pre ++ l.take k) x = 0) → evsLoop regs last pre l = 0
  | [], pre, _ => rfl
  | y :: l, pre, h => by
    have h0 := h 0 y rfl
    simp at h0
    rw [evs_cons, if_neg (by simpa using h0)]
    refine evs_all fun k x hx => ?_
    have := h (k + 1) x (by simpa using hx)
    simpa using this
/-- each comment behind those ahead of it -/
theorem coms_ok {last : Int} {evs : List Ev} {l : List Com} (h : comsLoop last evs none l = 0) : ∀ (k : Nat) (c : Com), l[k]? = some c → c.err last evs (prevC l k) = 0 := by
  have key : ∀ k, k ≤ l.length → comsLoop last evs (prevC l k) (l.drop k) = 0 := by
    intro k
    induction k with
    | zero => intro _; exact h
    | succ k ih =>
      intro hk
      have h1 := ih (by omega)
      obtain ⟨c, hc⟩ : ∃ c, l[k]? = some c := ⟨_, List.getElem?_eq_getElem (by omega)⟩
      obtain ⟨h2, h3⟩ := coms_step hc h1.symm
      by_cases he : c.err last evs (prevC l k) = 0
      · exact (h3 he).symm
      · exact absurd (h2 he).symm he
  intro k c hc
  have hk := (List.getElem?_eq_some_iff.1 hc).1
  obtain ⟨h2, _⟩ := coms_step hc (key k (by omega)).symm
  by_cases he : c.err last evs (prevC l k) = 0
  · exact he
  · exact absurd (h2 he).symm he
theorem com_ok {c : Com} {last : Int} {evs : List Ev} {p : Option Int} (h : c.err last evs p = 0) : 1 ≤ c.id ∧ c.id ≤ last ∧ ¬ ((p.map fun q => decide (c.id ≤ q)) = some true) ∧ findE evs c.id = none ∧ c.anchorErr last evs = 0 ∧ nameB c.author = true ∧ vld c.text = true ∧ c.text.toList.isEmpty = false ∧ c.text.size ≤ 400 := by
  unfold Com.err at h
  split at h
  · simp at h
  · rename_i h1
    split at h
    · simp at h
    · rename_i h2
      split at h
      · simp at h
      · rename_i h3
        split at h
        · rename_i h4; exact absurd h h4
        · rename_i h4
          split at h
          · simp at h
          · rename_i h5
            split at h
            · simp at h
            · rename_i h6
              split at h
              · simp at h
              · rename_i h7
                split at h
                · simp at h
                · rename_i h8
                  refine ⟨by omega, by omega, h2, ?_, by simpa using h4, by simpa using h5, by simpa using h6, by simpa using h7, by omega⟩
                  cases hf : findE evs c.id with
                  | none => rfl
                  | some j => rw [hf] at h3; simp at h3
theorem anchor_ok {c : Com} {last : Int} {evs : List Ev} (h : c.anchorErr last evs = 0) : 1 ≤ c.ev ∧ c.ev ≤ last ∧ (c.lost = true → c.fr = 0 ∧ c.til = 0) ∧ (c.lost = false → ∃ k e, findE evs c.ev = some k ∧ evs[k]? = some e ∧ 0 ≤ c.fr ∧ c.fr < c.til ∧ c.til ≤ e.len) := by
  by_cases h1 : c.ev < 1 ∨ last < c.ev
  · rw [anc_no h1] at h; simp at h
  cases hl : c.lost
  · cases hf : findE evs c.ev with
    | none => rw [anc_none h1 hl hf] at h; simp at h
    | some k =>
      have hk := findE_lt hf
      rw [anc_some h1 hl hf (List.getElem?_eq_getElem hk)] at h
      split at h
      · simp at h
      · refine ⟨by omega, by omega, fun hh => by simp at hh, fun _ => ⟨k, _, rfl, List.getElem?_eq_getElem hk, by omega, by omega, by omega⟩⟩
  · rw [anc_lost h1 hl] at h
    split at h
    · simp at h
    · exact ⟨by omega, by omega, fun _ => by omega, fun hh => by simp at hh⟩
theorem ev_ok {e : Ev} {regs : List Reg} (h : e.err regs = 0) : 1 ≤ e.id ∧ e.id ≤ 1099511627776 ∧ spansB e.inn e.out = true := by
  unfold Ev.err at h
  split at h
  · simp at h
  · rename_i h1
    refine ⟨by omega, by omega, ?_⟩
    cases hs : spansB e.inn e.out
    · exact absurd (.inr (.inr hs)) h1
    · rfl
end Go.Proofs.YtagfedbdakmlgaaDoor

/-! RateR -/
namespace Go.Proofs.YtagfedbdakmlgaaDoor
set_option linter.unusedVariables false
set_option linter.unusedSimpArgs false
open Go.RowKit

end Go.Proofs.YtagfedbdakmlgaaDoor

/-! ConvW -/
namespace Go.Proofs.YtagfedbdakmlgaaDoor
set_option linter.unusedVariables false
set_option linter.unusedSimpArgs false
open Go.RowKit

theorem frame_bd {r t : Int} (h : rOk r = true) (h0 : 0 ≤ t) (h1 : t ≤ 10378368000) : 0 ≤ quoI t (rTicks r) 2 ∧ quoI t (rTicks r) 2 ≤ 10378373005 ∧ 0 ≤ quoI t (rTicks r) 2 * rTicks r ∧ quoI t (rTicks r) 2 * rTicks r ≤ 10378373005 := by
  obtain ⟨t1, t2⟩ := ticks_bd h
  obtain ⟨a1, a2, a3⟩ := quo_near (n := t) (d := rTicks r) h0 (by omega)
  have a4 : 0 ≤ quoI t (rTicks r) 2 * rTicks r := Int.mul_nonneg a3 (by omega)
  have a5 : quoI t (rTicks r) 2 * 1 ≤ quoI t (rTicks r) 2 * rTicks r := Int.mul_le_mul_of_nonneg_left (by omega) a3
  refine ⟨a3, by omega, a4, by omega⟩
def tupI (p : Int × Int) : Value := .tuple #[.int .i64 p.1, .int .i64 p.2]
def tupS (p : (Int × Int) × Int) : Value := .tuple #[.agg #[.int .i64 p.1.1, .int .i64 p.1.2], .int .i64 p.2]
theorem size_span' : (Tryd.prog.info? 41).map (·.size) = some 2 := by kernel_rfl

theorem PSpan_1 {a b i o m : Int} (h : rOk a = false ∨ rOk b = false) : spanT a b i o m = ((0, 0), 3) := by unfold spanT; rw [if_pos h]
theorem PSpan_2 {a b i o m : Int} (h : ¬ (rOk a = false ∨ rOk b = false)) (h2 : ¬ (m = 1 ∨ m = 2) ∨ o ≤ i) : spanT a b i o m = ((0, 0), 1) := by unfold spanT; rw [if_neg h, if_pos h2]
theorem PSpan_3 {a b i o m : Int} (h : ¬ (rOk a = false ∨ rOk b = false)) (h2 : ¬ (¬ (m = 1 ∨ m = 2) ∨ o ≤ i)) (h3 : i < 0 ∨ 5184000 < o) : spanT a b i o m = ((0, 0), 2) := by unfold spanT; rw [if_neg h, if_neg h2, if_pos h3]
theorem PSpan_4 {a b i o m : Int} (h : ¬ (rOk a = false ∨ rOk b = false)) (h2 : ¬ (¬ (m = 1 ∨ m = 2) ∨ o ≤ i)) (h3 : ¬ (i < 0 ∨ 5184000 < o)) (h4 : m = 2) : spanT a b i o m = ((i, o), 0) := by unfold spanT; rw [if_neg h, if_neg h2, if_neg h3, if_pos h4]
theorem PSpan_5 {a b i o m : Int} (h : ¬ (rOk a = false ∨ rOk b = false)) (h2 : ¬ (¬ (m = 1 ∨ m = 2) ∨ o ≤ i)) (h3 : ¬ (i < 0 ∨ 5184000 < o)) (h4 : ¬ m = 2) : spanT a b i o m =
    if (convT a b i 2).2 ≠ 0 then ((0, 0), (convT a b i 2).2) else if (convT a b o 2).2 ≠ 0 then ((0, 0), (convT a b o 2).2) else
      if 5184000 < max (convT a b o 2).1 ((convT a b i 2).1 + 1) then ((0, 0), 2) else (((convT a b i 2).1, max (convT a b o 2).1 ((convT a b i 2).1 + 1)), 0) := by unfold spanT; rw [if_neg h, if_neg h2, if_neg h3, if_neg h4]
theorem conv_bd (a b f : Int) : 0 ≤ (convT a b f 2).1 ∧ (convT a b f 2).1 ≤ 10378373005 := by
  by_cases h : (convT a b f 2).2 = 0
  · obtain ⟨_, hb, _, h1, h2, h3, h4⟩ := convT_ok h
    have := frame_bd hb h1 h2
    rw [h3]; omega
  · have : (convT a b f 2).1 = 0 := by
      unfold convT at h ⊢
      split
      · rfl
      · split
        · rfl
        · rename_i g1 g2
          rw [if_neg g1, if_neg g2] at h
          unfold frameT at h ⊢
          split
          · rfl
          · split
            · rfl
            · split
              · rfl
              · rename_i k1 k2 k3
                rw [if_neg k1, if_neg k2, if_neg k3] at h
                exact absurd rfl h
    omega

end Go.Proofs.YtagfedbdakmlgaaDoor

/-! RetK -/
namespace Go.Proofs.YtagfedbdakmlgaaDoor
set_option linter.unusedVariables false
set_option linter.unusedSimpArgs false
open Go.RowKit Go.Maps

theorem wp_call4R {P : Program} {o : Oper} {a : Act} {w : World} {K : Act → World → Prop} {Q : Exit → Act → World → Prop} {f : FuncId} {x y z t : Operand} {ts : Array TypeId} {v v1 v2 v3 : Value} (ho : o.op = .call { callee := .value (.func f), args := #[x, y, z, t], argTypes := ts }) (hx : a.eval x = v) (hy : a.eval y = v1) (hz : a.eval z = v2) (ht : a.eval t = v3)
    (hent : ∀ args w, (callFunc f args).run P w = .ok (.enter f args) w) {R : Ending → World → Prop} (hc : Calls P f #[v, v1, v2, v3] w R) (h : ∀ en w', R en w' → ∃ u, en = .returned u ∧ K (a.put o.dst u) w') : o.wp P a w K Q := by
  have h2 : Calls P f #[v, v1, v2, v3] w (fun
      | .returned u, w'' => K (a.put o.dst u) w''
      | .panicked chain, w'' => Q (.panic chain) a w''
      | .outgrown, _ => LetsOut Q) := hc.mono fun en w' hr => by
    obtain ⟨u, rfl, hk⟩ := h en w' hr
    exact hk
  unfold Oper.wp execOp
  simp only [ho]
  have hev : a.eval (.func f) = .func (.func f) #[] #[] := rfl
  simp [resolve, invoke, hev, hx, hy, hz, ht, hent, Sem.run_bind, Deferred.ofValue]
  exact h2
/-- one element, built just now, is appended to a row of the call's own (an operation of a drawn region) -/
theorem wp_append1a {P : Program} {o : Oper} {a : Act} {w : World} {K : Act → World → Prop} {Q : Exit → Act → World → Prop} (s x : Operand) (t : TypeId)
    (ho : o.op = .call { callee := .builtin .append, args := #[s, x], argTypes := #[t, t] })
    {base : Nat} {e : TypeId} {z : Value} {size bytes : Nat} (inf : (P.info? e).map (fun i => (i.zero, i.size, i.bytes)) = some (some z, size, bytes)) (ht : P.underlying t = some (.slice e)) (hzs : z.cells.size = size) (hsz : 0 < size)
    {v : Value} {n : Nat} {xs : List Value} (hown : w.ownsRow base e size v n xs) (hs : a.eval s = v) (g : Nat) (news : Array Value) (hx : a.eval x = .slice (some ⟨g, 0, none⟩) 1 1) (hB : Blk w g e news) (hl : news.size = size) (h1 : news.all (·.oneCell') = true)
    (hroom : (n + 1) * bytes ≤ 140737488355328) (hmax : n + 1 ≤ maxLen) (hbase : base ≤ w.heap.size)
    (h : ∀ v' w', w'.ownsRow base e size v' (n + 1) (xs ++ news.toList) → w.grownBy w' v.ownBlock → (v'.ownBlock = v.ownBlock ∨ v'.ownBlock = some w.heap.size) → K (a.put o.dst v') w') : o.wp P a w K Q := by
  obtain ⟨i, hi, hz0, hz1, hz2⟩ := info_parts inf
  obtain ⟨v', w', hrun, h2, h3, _, h5⟩ := run_append_own_at (P := P) w base t o.type e i z size bytes ht hi hz0 hz1 hz2 hzs hsz v n xs hown ⟨g, 0, none⟩ 1 1 news.toList (by simpa using hl)
    (fun j u hu => by rw [Addr.add_mid, Nat.zero_add, hB.cell]; simpa using hu) (fun u hu => (Array.all_eq_true_iff_forall_mem.1 h1) u (by simpa using hu)) hmax hroom hbase
  unfold Oper.wp execOp
  simp only [ho, resolve, invoke, builtin, Sem.run_bind, Sem.run_pure, Result.andThen_ok, List.map_toArray, List.map_cons, List.map_nil, hs, hx, hrun]
  exact h v' w' h2 h3 h5
theorem spanT_bd {a b i o m : Int} (h : (spanT a b i o m).2 = 0) : rOk a = true ∧ rOk b = true ∧ 0 ≤ (spanT a b i o m).1.1 ∧ (spanT a b i o m).1.1 < (spanT a b i o m).1.2 ∧ (spanT a b i o m).1.2 ≤ 5184000 := by
  unfold spanT at h ⊢
  by_cases h1 : rOk a = false ∨ rOk b = false
  · rw [if_pos h1] at h; simp at h
  rw [if_neg h1] at h ⊢
  have ha : rOk a = true := by
    cases hx : rOk a
    · exact absurd (.inl hx) h1
    · rfl
  have hb : rOk b = true := by
    cases hx : rOk b
    · exact absurd (.inr hx) h1
    · rfl
  refine ⟨ha, hb, ?_⟩
  by_cases h2 : ¬ (m = 1 ∨ m = 2) ∨ o ≤ i
  · rw [if_pos h2] at h; simp at h
  rw [if_neg h2] at h ⊢
  by_cases h3 : i < 0 ∨ 5184000 < o
  · rw [if_pos h3] at h; simp at h
  rw [if_neg h3] at h ⊢
  by_cases h4 : m = 2
  · rw [if_pos h4]; dsimp only; omega
  rw [if_neg h4] at h ⊢
  have c0 := conv_bd a b i
  by_cases h5 : (convT a b i 2).2 ≠ 0
  · rw [if_pos h5] at h; exact absurd h h5
  rw [if_neg h5] at h ⊢
  by_cases h6 : (convT a b o 2).2 ≠ 0
  · rw [if_pos h6] at h; exact absurd h h6
  rw [if_neg h6] at h ⊢
  by_cases h7 : 5184000 < max (convT a b o 2).1 ((convT a b i 2).1 + 1)
  · rw [if_pos h7] at h; simp at h
  rw [if_neg h7]
  dsimp only
  omega
theorem mul_bd {x t : Int} (h0 : 0 ≤ x) (h1 : x ≤ 5184000) (t0 : 0 ≤ t) (t1 : t ≤ 5005) : 0 ≤ x * t ∧ x * t ≤ 25945920000 := by
  refine ⟨Int.mul_nonneg h0 t0, ?_⟩
  calc x * t ≤ 5184000 * t := Int.mul_le_mul_of_nonneg_right h1 t0
    _ ≤ 5184000 * 5005 := Int.mul_le_mul_of_nonneg_left t1 (by omega)
theorem zero_i64 (w : World) : (zeroValue 2).run Tryd.prog w = .ok (.int .i64 0) w := by kernel_rfl
theorem wp_alloc_span {o : Oper} {a : Act} {w : World} {K : Act → World → Prop} {Q : Exit → Act → World → Prop} (ho : o.op = .alloc 41) (h : K (a.put o.dst (.pointer (some ⟨w.heap.size, 0, none⟩))) (w.alloc (.cells #[.int .i64 0, .int .i64 0] 41))) : o.wp Tryd.prog a w K Q := by
  obtain ⟨dst, op, ty, pos, after, guard⟩ := o
  simp only at ho
  subst ho
  go_simp
  exact h
theorem results_B_tmp2 {P : Program} {fn : Func} {p u v : Tmp} {ty : TypeId} (h : fn.results = #[.cell p ty, .tmp u, .tmp v]) {tmps : Array Value} {w : World} {g : Nat} {t : TypeId} {cs : Array Value} {d : TypeDesc} (hp : tmps.getD p undef = .pointer (some ⟨g, 0, none⟩))
    (hB : Blk w g t cs) (hu : P.underlying ty = some d) (hd : d.isRow = true) (hi : (P.info? ty).map (·.size) = some cs.size) : (results fn tmps).run P w = .ok (.tuple #[.agg cs, tmps.getD u undef, tmps.getD v undef]) w := by
  have h1 := run_loadVarB (P := P) g t ty cs d hB hu hd hi
  simp only [results, h]
  have e : tmps[p]?.getD undef = .pointer (some ⟨g, 0, none⟩) := by simpa using hp
  simp [Sem.run_bind, e, run_asAddr, h1]
def docH0 : DocH := ⟨none, 0, 0, none, 0, 0, none, 0, 0⟩
theorem docZero_cells : Doc.zero.cells docH0 = docZero := rfl
theorem docZero_at (w : World) : DocAt w Doc.zero docH0 := ⟨Sl.nil, Sl.nil, Sl.nil⟩
/-- what Retime comes to -/
def RetPost (d : Doc) (b : Int) (drop : Bool) (m : Int) (w : World) (en : Ending) (w' : World) : Prop :=
  ∃ h' A n c, en = .returned (.tuple #[.agg ((d.retD b drop m).cells h'), .slice A n c, .int .i64 (d.retE b drop m)]) ∧ DocAt w' (d.retD b drop m) h' ∧ DrisAt w' A n (d.retL b drop m) ∧ n ≤ c ∧ Ext w w'
theorem retPost_err {d : Doc} {b m : Int} {drop : Bool} {w w' : World} {en : Ending} {e : Int} (he : d.retE b drop m = e) (h0 : e ≠ 0) (hx : Ext w w') (hen : en = .returned (.tuple #[.agg docZero, .slice none 0 0, .int .i64 e])) : RetPost d b drop m w en w' := by
  have h1 : d.retD b drop m = Doc.zero := by unfold Doc.retD; rw [if_neg (by rw [he]; exact h0)]
  have h2 : d.retL b drop m = [] := by unfold Doc.retL; rw [if_neg (by rw [he]; exact h0)]
  refine ⟨docH0, none, 0, 0, ?_, ?_, ?_, Nat.le_refl _, hx⟩
  · rw [hen, h1, docZero_cells, he]
  · rw [h1]; exact docZero_at w'
  · rw [h2]; exact Sl.nil
section
variable {d : Doc} {b m : Int} {drop : Bool}
theorem ret_1 (h : d.err ≠ 0) : d.retE b drop m = d.err := by unfold Doc.retE; rw [if_pos h]
theorem ret_2 (h : d.err = 0) (h2 : rateOkB b drop = false) : d.retE b drop m = 13 := by unfold Doc.retE; rw [if_neg (by simpa using h), if_pos h2]
theorem ret_3 (h : d.err = 0) (h2 : rateOkB b drop = true) (h3 : ¬ (m = 1 ∨ m = 2)) : d.retE b drop m = 1 := by unfold Doc.retE; rw [if_neg (by simpa using h), if_neg (by simp [h2]), if_pos h3]
theorem ret_4 (h : d.err = 0) (h2 : rateOkB b drop = true) (h3 : m = 1 ∨ m = 2) : d.retE b drop m = retErr d.rate b m d.evs := by unfold Doc.retE; rw [if_neg (by simpa using h), if_neg (by simp [h2]), if_neg (not_not_intro h3)]
end
theorem KM.trans {w w1 w2 : World} (h : KM w w1) (k : KM w1 w2) : KM w w2 := fun b es cl hb => k b es cl (h b es cl hb)
theorem mapIdx_at {α β : Type} (f : Nat → α → β) {l : List α} {k : Nat} (hk : k ≤ l.length) : ((l.take k).mapIdx f).length = k := by simp; omega
/-- the events while they are turned: those ahead of place k are new -/
def midEvs (a b m : Int) (l : List Ev) (k : Nat) : List Ev := retEvs a b m (l.take k) ++ l.drop k
theorem midEvs_at {a b m : Int} {l : List Ev} {k : Nat} {x : Ev} (h : l[k]? = some x) : (midEvs a b m l k)[k]? = some x := by
  have hk := (List.getElem?_eq_some_iff.1 h).1
  unfold midEvs retEvs
  rw [List.getElem?_append_right (by rw [mapIdx_at _ (by omega)]; exact Nat.le_refl _), mapIdx_at _ (by omega), Nat.sub_self, List.getElem?_drop, Nat.add_zero]
  exact h
theorem midEvs_set {a b m : Int} {l : List Ev} {k : Nat} {x : Ev} (h : l[k]? = some x) : (midEvs a b m l k).set k (retEv a b m k x) = midEvs a b m l (k + 1) := by
  have hk := (List.getElem?_eq_some_iff.1 h).1
  have hl : (retEvs a b m (l.take k)).length = k := mapIdx_at _ (by omega)
  unfold midEvs
  rw [drop_at l k x h, List.set_append_right _ _ (by omega), hl, Nat.sub_self, List.set_cons_zero]
  unfold retEvs
  rw [mapIdx_take _ h, List.append_assoc]
  rfl
theorem retDris_take {a b m : Int} {l : List Ev} {k : Nat} {x : Ev} (h : l[k]? = some x) : retDris a b m (l.take (k + 1)) = retDris a b m (l.take k) ++ [retDri a b m k x] := mapIdx_take _ h
section
variable {d : Doc} {h hh : DocH} {b m : Int} {oc : Array Value} {B M k : Nat} {w wr w1 : World} {v : Value}
end
end Go.Proofs.YtagfedbdakmlgaaDoor

/-! DClR -/
namespace Go.Proofs.YtagfedbdakmlgaaDoor
set_option linter.unusedVariables false
set_option linter.unusedSimpArgs false
open Go.RowKit

theorem own_uniq {w : World} {L : Nat} {e : TypeId} {size : Nat} {v : Value} {n : Nat} {xs ys : List Value} (h : w.ownsRow L e size v n xs) (k : w.ownsRow L e size v n ys) : ys = xs := by
  rcases h.2 with ⟨rfl, rfl⟩ | ⟨g, cap, cur, rfl, _, hb, _, _, _, hx⟩
  · have h1 := h.1
    have h2 := k.1
    rw [Nat.zero_mul] at h1 h2
    rw [List.eq_nil_of_length_eq_zero h1, List.eq_nil_of_length_eq_zero h2]
  · rcases k.2 with ⟨e1, _⟩ | ⟨g', cap', cur', e1, _, hb', _, _, _, hx'⟩
    · cases e1
    · cases e1
      rw [hb] at hb'
      cases hb'
      rw [← hx, ← hx']
theorem own_isSlice {w : World} {L : Nat} {e : TypeId} {size : Nat} {v : Value} {n : Nat} {xs : List Value} (h : w.ownsRow L e size v n xs) : ∃ A c, v = .slice A n c := by
  rcases h.2 with ⟨rfl, rfl⟩ | ⟨g, cap, cur, rfl, _⟩
  · exact ⟨none, 0, rfl⟩
  · exact ⟨_, _, rfl⟩
/-- an event is appended to events of one's own -/
theorem EvsOwn.push {w w1 : World} {L k : Nat} {v v' : Value} {l : List Ev} {e : Ev} {hs : List EH} {A' : Option Addr} {n' c' : Nat} (h1 : w.ownsRow L 45 7 v k (hs.flatMap EH.vals)) (h : EvsOwn w L v k l) (hg : EGood w L (EH.of e A' n' c') e) (hgr : w.grownBy w1 v.ownBlock)
    (hO : w1.ownsRow L 45 7 v' (k + 1) (hs.flatMap EH.vals ++ (e.cells A' n' c').toList)) : EvsOwn w1 L v' (k + 1) (l ++ [e]) :=
  h.snoc hg hgr fun xs hx => by rw [own_uniq h1 hx]; exact hO
theorem EvsOwn.heads {w : World} {L n : Nat} {v : Value} {l : List Ev} (h : EvsOwn w L v n l) : ∃ hs : List EH, w.ownsRow L 45 7 v n (hs.flatMap EH.vals) := h.elim fun hs h => ⟨hs, h.1⟩
structure R12ClRel (d : Doc) (cs : Array Value) (rn cn : Nat) (w : World) (v1 v2 : Value) (k : Nat) (v : Value) (wr : World) : Prop where
  ext : Ext w wr
  doc : Blk wr w.heap.size 39 cs
  zero : Blk wr (w.heap.size + 1) 39 docZero
  regs : wr.ownsRow w.heap.size 58 7 v1 rn (d.regs.flatMap Reg.vals)
  coms : wr.ownsRow w.heap.size 31 8 v2 cn (d.coms.flatMap Com.vals)
  evs : EvsOwn wr w.heap.size v k (d.evs.take k)
def R12ClLoop (d : Doc) (cs : Array Value) (rn cn n : Nat) (w : World) (v1 v2 v i : Value) (wr : World) : Prop := ∃ k : Nat, k ≤ n ∧ i = .int .i64 k ∧ R12ClRel d cs rn cn w v1 v2 k v wr
section
variable {d : Doc} {cs : Array Value} {rn cn k : Nat} {w wr w1 w2 : World} {v1 v2 v v' : Value}
theorem R12ClRel.grow (r : R12ClRel d cs rn cn w v1 v2 k v wr) (hx : Ext wr w1) : R12ClRel d cs rn cn w v1 v2 k v w1 :=
  ⟨r.ext.trans hx, r.doc.ext hx, r.zero.ext hx, own_ext r.regs hx, own_ext r.coms hx, r.evs.ext hx⟩
theorem R12ClRel.step {e : Ev} {hs : List EH} {A' : Option Addr} {n' c' : Nat} (r : R12ClRel d cs rn cn w v1 v2 k v wr) (he : d.evs[k]? = some e) (h1 : wr.ownsRow w.heap.size 45 7 v k (hs.flatMap EH.vals)) (hg : EGood wr w.heap.size (EH.of e A' n' c') e) (hgr : wr.grownBy w2 v.ownBlock)
    (hO : w2.ownsRow w.heap.size 45 7 v' (k + 1) (hs.flatMap EH.vals ++ (e.cells A' n' c').toList)) : R12ClRel d cs rn cn w v1 v2 (k + 1) v' w2 := by
  have hty := own_typed h1
  refine ⟨r.ext.grown hgr (fun q hq => own_lt h1 q hq), r.doc.kb (KB.grown hgr hty (by decide)), r.zero.kb (KB.grown hgr hty (by decide)), own_kb r.regs (KB.grown hgr hty (by decide)), own_kb r.coms (KB.grown hgr hty (by decide)), ?_⟩
  rw [take_snoc' d.evs k e he]
  exact r.evs.push h1 hg hgr hO
end

set_option maxRecDepth 100000 in
set_option maxHeartbeats 4000000 in
theorem R12Clone_any (d : Doc) (h : DocH) (w : World) (hat : DocAt w d h) (hr : h.rn * 56 ≤ 140737488355328) (hen : h.en * 88 ≤ 140737488355328) (hcn : h.cn * 72 ≤ 140737488355328) :
    Calls Tryd.prog 13 #[.agg (d.cells h)] w (DClPost d w) := by
  have HR := Lib.hid hat.regs.vals
  have HC := Lib.hid hat.coms
  have HE := Lib.hid hat.evs
  have HEl := Lib.hid hat.evs.len
  have HRl := Lib.hid hat.regs.len
  have HCl := Lib.hid hat.coms.len
  clear hat
  obtain ⟨hra, rn, hrc, hea, n, hec, hca, cn, hcc⟩ := h
  dsimp only at *
  have HX0 : Hid (Ext w ((w.alloc (.cells (d.cells3 (.slice hra rn hrc) (.slice hea n hec) (.slice hca cn hcc)) 39)).alloc (.cells docZero 39))) := ((Ext.refl w).alloc _).alloc _
  have HB0 : Hid (Blk ((w.alloc (.cells (d.cells3 (.slice hra rn hrc) (.slice hea n hec) (.slice hca cn hcc)) 39)).alloc (.cells docZero 39)) w.heap.size 39 (d.cells3 (.slice hra rn hrc) (.slice hea n hec) (.slice hca cn hcc))) := (Blk.new w _ _).alloc _
  have HZ0 : Hid (Blk ((w.alloc (.cells (d.cells3 (.slice hra rn hrc) (.slice hea n hec) (.slice hca cn hcc)) 39)).alloc (.cells docZero 39)) (w.heap.size + 1) 39 docZero) := Blk.new' (by simp)
  unfold Doc.cells
  unfold Doc.cells3 docZero at *
  dsimp only
  go_enter Tryd.func13, Tryd.ntmps13
  go_upto_region 1 with (fail)
  generalize hWg : ((w.alloc (.cells #[.string d.title, .string d.lang, .int .u8 d.rate, .bool d.drop, .int .i64 d.last, .slice hra rn hrc, .slice hea n hec, .slice hca cn hcc] 39)).alloc (.cells #[.string ⟨#[]⟩, .string ⟨#[]⟩, .int .u8 0, .bool false, .int .i64 0, .slice none 0 0, .slice none 0 0, .slice none 0 0] 39)) = W0 at *
  clear hWg
  have HN0 := Lib.hid (own_nil0' (w := W0) (e := 58) (size := 7) (base := w.heap.size) (g := W0.heap.size) rfl HX0.out.size)
  have hc0 := fun obj o => (HB0.out.alloc obj).cell o
  go_upto_region 2 with (at_builtin; refine wpList_appendS rfl (.tmp 6) (.tmp 8) 35 rfl info_regI Tryd.underlying35 rfl (by decide) (by exact HN0.out) (by exact rfl) (by exact rfl) (by exact Sl.ext (Cells.stays _) HR.out (HX0.out.alloc _)) (fun _ => rfl) reg_ones (by omega) (by simp [maxLen]; omega) (by have := HX0.out.size; simp; omega) ?_; intro v1 w1 hown hgr _; simp only [Nat.zero_add, List.nil_append] at hown; have hty := own_typed HN0.out; have hlt := own_lt HN0.out; have HB1 := Lib.hid ((HB0.out.alloc (.cells #[] 58)).kb (KB.grown hgr hty (by decide))); have HZ1 := Lib.hid ((HZ0.out.alloc (.cells #[] 58)).kb (KB.grown hgr hty (by decide))); have HX1 := Lib.hid ((HX0.out.alloc (.cells #[] 58)).grown hgr hlt); have HO1 := Lib.hid hown;  obtain ⟨A1, c1, rfl⟩ := own_isSlice hown; have hs := fun u => setCell_put HB1.out 5 u; have hc := HB1.out.cell 5; have hf := HB1.out.frozen 5; simp at hs hc; clear hown hgr hty hlt)
  clear hc hs hf
  obtain ⟨W2, hW2⟩ : ∃ W2, W2 = putB w1 w.heap.size 39 #[.string d.title, .string d.lang, .int .u8 d.rate, .bool d.drop, .int .i64 d.last, .slice A1 rn c1, .slice hea n hec, .slice hca cn hcc] := ⟨_, rfl⟩
  rw [← hW2]
  have HB2 : Hid (Blk W2 w.heap.size 39 #[.string d.title, .string d.lang, .int .u8 d.rate, .bool d.drop, .int .i64 d.last, .slice A1 rn c1, .slice hea n hec, .slice hca cn hcc]) := by show Blk _ _ _ _; rw [hW2]; exact HB1.out.put _
  have HZ2 : Hid (Blk W2 (w.heap.size + 1) 39 #[.string ⟨#[]⟩, .string ⟨#[]⟩, .int .u8 0, .bool false, .int .i64 0, .slice none 0 0, .slice none 0 0, .slice none 0 0]) := by show Blk _ _ _ _; rw [hW2]; exact HZ1.out.put_other (by omega) _
  have HX2 : Hid (Ext w W2) := by show Ext _ _; rw [hW2]; exact HX1.out.put (Nat.le_refl _) _ _
  have HO2 : Hid (W2.ownsRow w.heap.size 58 7 (.slice A1 rn c1) rn (d.regs.flatMap Reg.vals)) := by show World.ownsRow _ _ _ _ _ _ _; rw [hW2]; exact own_kb HO1.out (KB.put HB1.out (by decide))
  have HN2 := Lib.hid (own_nil0' (w := W2) (e := 31) (size := 8) (base := w.heap.size) (g := W2.heap.size) rfl HX2.out.size)
  clear hW2 HB1 HZ1 HX1 HO1 HN0 hc0
  have hc2 := fun obj o => (HB2.out.alloc obj).cell o
  go_upto_region 3 with (at_builtin; refine wpList_appendS rfl (.tmp 11) (.tmp 13) 37 rfl info_comI Tryd.underlying37 rfl (by decide) (by exact HN2.out) (by exact rfl) (by exact rfl) (by exact Sl.ext (Cells.stays _) HC.out (HX2.out.alloc _)) (fun _ => rfl) com_ones (by omega) (by simp [maxLen]; omega) (by have := HX2.out.size; simp; omega) ?_; intro v3 w3 hown hgr _; simp only [Nat.zero_add, List.nil_append] at hown; have hty := own_typed HN2.out; have hlt := own_lt HN2.out; have HB3 := Lib.hid ((HB2.out.alloc (.cells #[] 31)).kb (KB.grown hgr hty (by decide))); have HZ3 := Lib.hid ((HZ2.out.alloc (.cells #[] 31)).kb (KB.grown hgr hty (by decide))); have HX3 := Lib.hid ((HX2.out.alloc (.cells #[] 31)).grown hgr hlt); have HO3 := Lib.hid hown; have HR3 := Lib.hid (own_kb (own_ext HO2.out ((Ext.refl W2).alloc (.cells #[] 31))) (KB.grown hgr hty (by decide))); obtain ⟨A3, c3, rfl⟩ := own_isSlice hown; have hs := fun u => setCell_put HB3.out 7 u; have hc := HB3.out.cell 7; have hf := HB3.out.frozen 7; simp at hs hc; clear hown hgr hty hlt)
  clear hc hs hf
  obtain ⟨W4, hW4⟩ : ∃ W4, W4 = putB w3 w.heap.size 39 #[.string d.title, .string d.lang, .int .u8 d.rate, .bool d.drop, .int .i64 d.last, .slice A1 rn c1, .slice hea n hec, .slice A3 cn c3] := ⟨_, rfl⟩
  rw [← hW4]
  have HB4 : Hid (Blk W4 w.heap.size 39 #[.string d.title, .string d.lang, .int .u8 d.rate, .bool d.drop, .int .i64 d.last, .slice A1 rn c1, .slice hea n hec, .slice A3 cn c3]) := by show Blk _ _ _ _; rw [hW4]; exact HB3.out.put _
  have HZ4 : Hid (Blk W4 (w.heap.size + 1) 39 #[.string ⟨#[]⟩, .string ⟨#[]⟩, .int .u8 0, .bool false, .int .i64 0, .slice none 0 0, .slice none 0 0, .slice none 0 0]) := by show Blk _ _ _ _; rw [hW4]; exact HZ3.out.put_other (by omega) _
  have HX4 : Hid (Ext w W4) := by show Ext _ _; rw [hW4]; exact HX3.out.put (Nat.le_refl _) _ _
  have HR4 : Hid (W4.ownsRow w.heap.size 58 7 (.slice A1 rn c1) rn (d.regs.flatMap Reg.vals)) := by show World.ownsRow _ _ _ _ _ _ _; rw [hW4]; exact own_kb HR3.out (KB.put HB3.out (by decide))
  have HC4 : Hid (W4.ownsRow w.heap.size 31 8 (.slice A3 cn c3) cn (d.coms.flatMap Com.vals)) := by show World.ownsRow _ _ _ _ _ _ _; rw [hW4]; exact own_kb HO3.out (KB.put HB3.out (by decide))
  clear hW4 HB3 HZ3 HX3 HO3 HN2 hc2 HR3 HO2 HB2 HZ2
  have hc4 := fun o => HB4.out.cell o
  go_wp2_with fail
  clear hc4
  go_loopw [3, 19] (fun v i wr => R12ClLoop d #[.string d.title, .string d.lang, .int .u8 d.rate, .bool d.drop, .int .i64 d.last, .slice A1 rn c1, .slice hea n hec, .slice A3 cn c3] rn cn n w (.slice A1 rn c1) (.slice A3 cn c3) v i wr) (fun _ i _ => n - (intOf i).toNat)
  case atStart => exact ⟨0, Nat.zero_le _, rfl, HX4.out, HB4.out, HZ4.out, HR4.out, HC4.out, EvsOwn.nil _ _⟩
  case round =>
    obtain ⟨k, hk, rfl, hrr⟩ := hrel
    have HRr := Lib.hid hrr
    clear hrr
    by_cases hlt : k < n
    · obtain ⟨b, off, x, A', n', c', rfl, hxx, hxat, e0, e1, e2, e3, e4, e5, e6⟩ := (HE.out.ext HRr.out.ext).at_ev hlt
      have HXx := Lib.hid hxx
      have HCn := Lib.hid (fun w' (hx : Ext wr w') => REClone_any x A' n' c' w' (hxat.ext hx))
      have hn24 := hxat.2.2
      clear hxx hxat
      unfold EClPost Ev.cells at HCn
      have HBx := Lib.hid (Blk.new wr 45 #[.int .i64 x.id, .int .i64 x.inn, .int .i64 x.out, .string x.region, .int .u8 x.kind, .string x.speaker, .slice A' n' c'])
      go_wp2_with (refine wpList_loadB rfl 45 (.tmp 5) rfl wr.heap.size 45 _ _ (by exact rfl) (by exact HBx.out) Tryd.underlying45 rfl (by exact size_event) ?_)
      clear e0 e1 e2 e3 e4 e5 e6
      refine (HCn.out _ ((Ext.refl wr).alloc _)).mono ?_
      rintro en w5 ⟨A5, c5, rfl, hnc5, hrf5, hx5⟩
      have HX5 := Lib.hid (((Ext.refl wr).alloc (.cells #[.int .i64 x.id, .int .i64 x.inn, .int .i64 x.out, .string x.region, .int .u8 x.kind, .string x.speaker, .slice A' n' c'] 45)).trans hx5)
      have HRf := Lib.hid hrf5
      have hsz := HRr.out.ext.size
      have hsz5 := HX5.out.size
      obtain ⟨hs, hown⟩ := (HRr.out.evs.ext HX5.out).heads
      have HOw := Lib.hid hown
      clear hrf5 hx5 hown
      go_wp2_with (at_builtin; refine wpList_append1 rfl (.tmp 23) (.tmp 26) 36 rfl info_evtI Tryd.underlying36 rfl (by decide) (HOw.out.alloc _) (by exact rfl) w5.heap.size _ (by exact rfl) (by exact Blk.new' (by simp)) (by exact rfl) (by simp [Value.oneCell']) (by omega) (by simp [maxLen]; omega) (by simp; omega) ?_; intro v' w6 hown' hgr)
      have hg : EGood (w5.alloc (.cells #[.int .i64 x.id, .int .i64 x.inn, .int .i64 x.out, .string x.region, .int .u8 x.kind, .string x.speaker, .slice A5 n' c5] 45)) w.heap.size (EH.of x A5 n' c5) x := ⟨rfl, hnc5, hn24, (HRf.out.ext ((Ext.refl w5).alloc _)).le (by simp; omega)⟩
      exact ⟨⟨k + 1, by omega, by go_num, ((HRr.out.grow HX5.out).grow ((Ext.refl w5).alloc (.cells #[.int .i64 x.id, .int .i64 x.inn, .int .i64 x.out, .string x.region, .int .u8 x.kind, .string x.speaker, .slice A5 n' c5] 45))).step HXx.out (HOw.out.alloc _) hg hgr hown'⟩, by simp [intOf]; omega⟩
    · have hkn : k = n := by omega
      subst hkn
      have htk : d.evs.take k = d.evs := List.take_of_length_le (by rw [HEl.out]; omega)
      have hev := HRr.out.evs
      rw [htk] at hev
      obtain ⟨A6, c6, hv, hc6, -, -⟩ := hev.at_
      subst hv
      have HEv := Lib.hid hev
      have HB := Lib.hid HRr.out.doc
      have HZ := Lib.hid HRr.out.zero
      have hs6 := fun u => setCell_put HB.out 6 u
      have hc6' := HB.out.cell 6
      have hf6 := HB.out.frozen 6
      simp at hs6 hc6'
      clear hev htk
      go_wp2_with (first | (refine wpList_loadB rfl 39 (.tmp 1) rfl w.heap.size 39 _ _ (by exact rfl) (by exact HB.out.put _) Tryd.underlying39 rfl (by exact size_docI) ?_) | (refine wpList_storeB rfl 39 (.tmp 2) (.tmp 31) rfl (w.heap.size + 1) 39 _ _ (by exact rfl) (by exact rfl) (by exact HZ.out.put_other (by omega) _) (by exact rfl) (by exact size_docI) (by simp [Value.oneCell']) ?_))
      refine bodyPost_ret (v := .agg #[.string d.title, .string d.lang, .int .u8 d.rate, .bool d.drop, .int .i64 d.last, .slice A1 rn c1, .slice A6 k c6, .slice A3 cn c3]) ?_ rfl ⟨⟨A1, rn, c1, A6, k, c6, A3, cn, c3⟩, rfl, ?_, ?_⟩
      · exact results_B (P := Tryd.prog) Tryd.results13 (g := w.heap.size + 1) rfl (by exact (HZ.out.put_other (by omega) _).put _) Tryd.underlying39 rfl size_docI
      · have ho : DocOwn wr w.heap.size d ⟨A1, rn, c1, A6, k, c6, A3, cn, c3⟩ := ⟨HRr.out.regs, HRl.out, HEv.out, HRr.out.coms, HCl.out⟩
        exact (ho.put HB.out _).put (HZ.out.put_other (by omega) _) _
      · exact (HRr.out.ext.put (Nat.le_refl _) _ _).put (by omega) _ _
end Go.Proofs.YtagfedbdakmlgaaDoor
