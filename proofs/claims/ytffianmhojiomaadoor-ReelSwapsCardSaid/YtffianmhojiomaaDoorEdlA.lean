/- Cuts of an edit decision list: the walks of edl.last, checkCut, reel.source, and of the reference's Played, single. -/
import Derived.Test.YtffianmhojiomaaDoorRatioB
import Derived.Test.YtffianmhojiomaaDoorRatioQ
import Derived.Test.YtffianmhojiomaaDoorName
import Derived.Test.YtffianmhojiomaaDoorNameR
namespace Go.Proofs.YtffianmhojiomaaDoor
set_option linter.unusedVariables false
set_option linter.unusedSimpArgs false
open Go.RowKit

/-- a cut -/
structure Cut where
  num : Int
  reel : ByteArray
  src : Int
  inn : Int
  out : Int
  n : Int
  d : Int
  deriving DecidableEq
def Cut.vals (c : Cut) : List Value := [.int .i64 c.num, .string c.reel, .int .i64 c.src, .int .i64 c.inn, .int .i64 c.out, .int .i64 c.n, .int .i64 c.d]
def Cut.cells (c : Cut) : Array Value := #[.int .i64 c.num, .string c.reel, .int .i64 c.src, .int .i64 c.inn, .int .i64 c.out, .int .i64 c.n, .int .i64 c.d]
/-- integers of 64 bits -/
def I64 (x : Int) : Prop := -9223372036854775808 ≤ x ∧ x ≤ 9223372036854775807
def Cut.Fits (c : Cut) : Prop := I64 c.num ∧ I64 c.src ∧ I64 c.inn ∧ I64 c.out ∧ I64 c.n ∧ I64 c.d ∧ c.reel.size ≤ 140737488351232

def speedB (c : Cut) : Bool := ratioB c.n c.d && decide (0 ≤ c.n ∧ c.n ≤ 8 ∧ c.d ≤ 8)
def srcAt (c : Cut) (t : Int) : Int := c.src + (t - c.inn) * c.n / c.d
/-- a cut whose numbers can be reckoned with -/
def Cut.Sane (c : Cut) : Prop := 0 ≤ c.inn ∧ c.inn < c.out ∧ c.out ≤ 5184000 ∧ 0 ≤ c.n ∧ c.n ≤ 8 ∧ 1 ≤ c.d ∧ c.d ≤ 8 ∧ 0 ≤ c.src ∧ c.src ≤ 5184000
def cutErr (c : Cut) (day : Int) : Int :=
  if nameB c.reel = false then 5 else if c.out ≤ c.inn then 1 else if c.inn < 0 ∨ day ≤ c.out then 2 else if speedB c = false then 3 else if c.src < 0 ∨ day ≤ c.src ∨ day ≤ srcAt c (c.out - 1) then 2 else 0
theorem speedB_true {c : Cut} (h : speedB c = true) : 0 ≤ c.n ∧ c.n ≤ 8 ∧ 1 ≤ c.d ∧ c.d ≤ 8 := by
  unfold speedB ratioB at h
  simp only [Bool.and_eq_true, decide_eq_true_eq] at h
  have := inPartsB_true h.1.1
  omega
theorem quoI_floor (n d : Int) : quoI n d 1 = n / d := by
  have h : awayB (n % d) d 1 = false := by unfold awayB; split <;> rfl
  unfold quoI
  rw [h]
  rfl
theorem mul_bd {a n : Int} (h0 : 0 ≤ a) (h1 : a ≤ 5184000) (h2 : 0 ≤ n) (h3 : n ≤ 8) : 0 ≤ a * n ∧ a * n ≤ 41472000 := by
  refine ⟨Int.mul_nonneg h0 h2, ?_⟩
  have h4 : a * n ≤ 5184000 * 8 := Int.mul_le_mul h1 h3 h2 (by omega)
  omega
theorem div_bd {x d : Int} (h0 : 0 ≤ x) (h1 : x ≤ 41472000) (h2 : 1 ≤ d) : 0 ≤ x / d ∧ x / d ≤ 41472000 :=
  ⟨Int.ediv_nonneg h0 (by omega), Int.le_trans (Int.ediv_le_self _ h0) h1⟩

set_option maxRecDepth 100000 in
set_option maxHeartbeats 1000000 in
theorem source_any (c : Cut) (t : Int) (w : World) (hc : c.Sane) (h1 : c.inn ≤ t) (h2 : t < c.out) :
    Calls Tryd.prog 28 #[.agg c.cells, .int .i64 t] w fun e w' => e = .returned (.int .i64 (srcAt c t)) ∧ Ext w w' := by
  obtain ⟨num, rl, src, inn, out, n, d⟩ := c
  obtain ⟨a1, a2, a3, a4, a5, a6, a7, a8, a9⟩ := hc
  dsimp only at *
  have hm := mul_bd (a := t - inn) (n := n) (by omega) (by omega) a4 a5
  have hq := div_bd hm.1 hm.2 a6
  have HF : Hid (srcAt ⟨num, rl, src, inn, out, n, d⟩ t = src + (t - inn) * n / d) := rfl
  have HX := Lib.hid ((Ext.refl w).alloc (.cells #[.int .i64 num, .string rl, .int .i64 src, .int .i64 inn, .int .i64 out, .int .i64 n, .int .i64 d] 67))
  unfold Cut.cells
  dsimp only
  go_enter Tryd.func28, Tryd.ntmps28
  go_wp2_with fail
  refine (Quotient_any ((t - inn) * n) d 1 _ hm.1 (by omega) a6 (by omega) (by omega) (by omega)).mono ?_
  rintro e w1 ⟨rfl, hx⟩
  rw [quoI_floor]
  have hB := Blk.ext (Blk.new w 67 #[.int .i64 num, .string rl, .int .i64 src, .int .i64 inn, .int .i64 out, .int .i64 n, .int .i64 d]) hx
  have hcell := fun o => hB.cell o
  have HB := Lib.hid hB
  clear hB
  go_wp2_with fail
  go_ret
  exact ⟨ret_int HF.out.symm, HX.out.trans hx⟩
set_option maxRecDepth 100000 in
set_option maxHeartbeats 1000000 in
theorem last_any (c : Cut) (w : World) (hc : c.Sane) :
    Calls Tryd.prog 58 #[.agg c.cells] w fun e w' => e = .returned (.int .i64 (srcAt c (c.out - 1))) ∧ Ext w w' := by
  obtain ⟨num, rl, src, inn, out, n, d⟩ := c
  obtain ⟨a1, a2, a3, a4, a5, a6, a7, a8, a9⟩ := hc
  dsimp only at *
  have hm := mul_bd (a := out - 1 - inn) (n := n) (by omega) (by omega) a4 a5
  have hq := div_bd hm.1 hm.2 a6
  have HF : Hid (srcAt ⟨num, rl, src, inn, out, n, d⟩ (out - 1) = src + (out - 1 - inn) * n / d) := rfl
  have HX := Lib.hid ((Ext.refl w).alloc (.cells #[.int .i64 num, .string rl, .int .i64 src, .int .i64 inn, .int .i64 out, .int .i64 n, .int .i64 d] 67))
  unfold Cut.cells
  dsimp only
  go_enter Tryd.func58, Tryd.ntmps58
  go_wp2_with fail
  refine (Quotient_any ((out - 1 - inn) * n) d 1 _ hm.1 (by omega) a6 (by omega) (by omega) (by omega)).mono ?_
  rintro e w1 ⟨rfl, hx⟩
  rw [quoI_floor]
  have hB := Blk.ext (Blk.new w 67 #[.int .i64 num, .string rl, .int .i64 src, .int .i64 inn, .int .i64 out, .int .i64 n, .int .i64 d]) hx
  have hcell := fun o => hB.cell o
  have HB := Lib.hid hB
  clear hB
  go_wp2_with fail
  go_ret
  exact ⟨ret_int HF.out.symm, HX.out.trans hx⟩
set_option maxRecDepth 100000 in
set_option maxHeartbeats 1000000 in
theorem Played_any (c : Cut) (t : Int) (w : World) (hc : c.Sane) (h1 : c.inn ≤ t) (h2 : t < c.out) :
    Calls Tryd.prog 30 #[.agg c.cells, .int .i64 t] w fun e w' => e = .returned (.int .i64 (srcAt c t)) ∧ Ext w w' := by
  obtain ⟨num, rl, src, inn, out, n, d⟩ := c
  obtain ⟨a1, a2, a3, a4, a5, a6, a7, a8, a9⟩ := hc
  dsimp only at *
  have hm := mul_bd (a := t - inn) (n := n) (by omega) (by omega) a4 a5
  have hq := div_bd hm.1 hm.2 a6
  have hd0 : (d == 0) = false := by simp; omega
  have hdz : ¬ d = 0 := by omega
  have HF : Hid (srcAt ⟨num, rl, src, inn, out, n, d⟩ t = src + (t - inn) * n / d) := rfl
  have HX := Lib.hid ((Ext.refl w).alloc (.cells #[.int .i64 num, .string rl, .int .i64 src, .int .i64 inn, .int .i64 out, .int .i64 n, .int .i64 d] 67))
  unfold Cut.cells
  dsimp only
  go_enter Tryd.func30, Tryd.ntmps30
  go_wp2_with fail
  go_quiet (fail)
  go_wp2_with fail
  go_ret
  exact ⟨ret_int HF.out.symm, HX.out.drewN _⟩
end Go.Proofs.YtffianmhojiomaaDoor
