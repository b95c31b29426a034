/- The walks of the packages timebase and timecode (of, Valid, CanDrop, Nominal, rateError, dropped, Day) and of their references. -/
import Derived.Test.YtffianmhojiomaaDoorBase
import Derived.Test.YtffianmhojiomaaDoorBlk
namespace Go.Proofs.YtffianmhojiomaaDoor
set_option linter.unusedVariables false
set_option linter.unusedSimpArgs false
open Go.RowKit

/-- what a rate is: ticks, nominal frames, drop -/
def rTicks (r : Int) : Int := if r = 1 then 5005 else if r = 2 then 5000 else if r = 3 then 4800 else if r = 4 then 4004 else if r = 5 then 4000 else if r = 6 then 2400 else if r = 7 then 2002 else 0
def rNom (r : Int) : Int := if r = 1 then 24 else if r = 2 then 24 else if r = 3 then 25 else if r = 4 then 30 else if r = 5 then 30 else if r = 6 then 50 else if r = 7 then 60 else 0
def rDrop (r : Int) : Bool := decide (r = 4 ∨ r = 7)
def rName (r : Int) : ByteArray := if r = 1 then ⟨#[50, 51, 46, 57, 55, 54]⟩ else if r = 2 then ⟨#[50, 52]⟩ else if r = 3 then ⟨#[50, 53]⟩ else if r = 4 then ⟨#[50, 57, 46, 57, 55]⟩ else if r = 5 then ⟨#[51, 48]⟩ else if r = 6 then ⟨#[53, 48]⟩ else if r = 7 then ⟨#[53, 57, 46, 57, 52]⟩ else ⟨#[]⟩
def rOk (r : Int) : Bool := decide (1 ≤ r ∧ r ≤ 7)
def rateVal (r : Int) : Value := .agg #[.string (rName r), .int .i64 (rTicks r), .int .i64 (rNom r), .bool (rDrop r)]

theorem rate_cases {r : Int} (h0 : 0 ≤ r) : (r = 0 ∨ r = 1 ∨ r = 2 ∨ r = 3 ∨ r = 4 ∨ r = 5 ∨ r = 6 ∨ r = 7) ∨ 8 ≤ r := by omega
theorem rateVal_big {r : Int} (h : 8 ≤ r) : rateVal r = .agg #[.string ⟨#[]⟩, .int .i64 0, .int .i64 0, .bool false] := by
  unfold rateVal rName rTicks rNom rDrop
  simp only [show ¬ r = 1 by omega, show ¬ r = 2 by omega, show ¬ r = 3 by omega, show ¬ r = 4 by omega, show ¬ r = 5 by omega, show ¬ r = 6 by omega, show ¬ r = 7 by omega, if_false, or_self]
  rfl

def rateTab : Array Value := #[.string ⟨#[]⟩, .int .i64 0, .int .i64 0, .bool false, .string ⟨#[50, 51, 46, 57, 55, 54]⟩, .int .i64 5005, .int .i64 24, .bool false, .string ⟨#[50, 52]⟩, .int .i64 5000, .int .i64 24, .bool false,
  .string ⟨#[50, 53]⟩, .int .i64 4800, .int .i64 25, .bool false, .string ⟨#[50, 57, 46, 57, 55]⟩, .int .i64 4004, .int .i64 30, .bool true, .string ⟨#[51, 48]⟩, .int .i64 4000, .int .i64 30, .bool false,
  .string ⟨#[53, 48]⟩, .int .i64 2400, .int .i64 50, .bool false, .string ⟨#[53, 57, 46, 57, 52]⟩, .int .i64 2002, .int .i64 60, .bool true]
def rateZero : Array Value := #[.string ⟨#[]⟩, .int .i64 0, .int .i64 0, .bool false]
theorem size_tab : (Tryd.prog.info? 115).map (·.size) = some 32 := by kernel_rfl
theorem size_rate : (Tryd.prog.info? 94).map (·.size) = some 4 := by kernel_rfl
/-- the cells of one of the eight -/
theorem tab_at (r : Int) (h0 : 0 ≤ r) (h7 : r ≤ 7) : ∀ j v, [Value.string (rName r), .int .i64 (rTicks r), .int .i64 (rNom r), .bool (rDrop r)][j]? = some v → rateTab[r.toNat * 4 + j]? = some v := by
  have : r = 0 ∨ r = 1 ∨ r = 2 ∨ r = 3 ∨ r = 4 ∨ r = 5 ∨ r = 6 ∨ r = 7 := by omega
  rcases this with rfl | rfl | rfl | rfl | rfl | rfl | rfl | rfl
  all_goals
    intro j v
    match j with
    | 0 => exact id
    | 1 => exact id
    | 2 => exact id
    | 3 => exact id
    | j + 4 => intro h; simp at h

set_option maxRecDepth 100000 in
set_option maxHeartbeats 2000000 in
theorem of_any (r : Int) (w : World) (h0 : 0 ≤ r) (h1 : r ≤ 255) : Calls Tryd.prog 52 #[.int .u8 r] w fun e w' => e = .returned (rateVal r) ∧ Ext w w' := by
  have HT := Lib.hid (tab_at r h0)
  have HB := Lib.hid (@rateVal_big r)
  go_enter Tryd.func52, Tryd.ntmps52
  go_upto_region 1 with fail
  go_cut [3] (fun s3 wr => s3 = Value.pointer (some ⟨w.heap.size + 1, 0, none⟩) ∧ Ext w wr ∧ Blk wr w.heap.size 94 rateZero ∧ Blk wr (w.heap.size + 1) 115 rateTab)
  case first =>
    go_wp2_with (refine wpList_storeB rfl 115 (.tmp 3) (.tmp 12) rfl (w.heap.size + 1) 115 _ _ (by exact rfl) (by exact rfl) (by exact Blk.new' (by simp)) (by exact rfl) (by exact size_tab) (by simp [Value.oneCell']) ?_)
    go_meet
    case rel => exact ⟨rfl, Ext.put (((Ext.refl w).alloc _).alloc _) (by omega) _ _, ((Blk.new w _ _).alloc _).put_other (by omega) _, (Blk.new' (by simp)).put _⟩
  case rest =>
  obtain ⟨rfl, hx2, hB0, hB1⟩ := hcut
  have HX := Lib.hid hx2
  have HB0 := Lib.hid hB0
  have HB1 := Lib.hid hB1
  clear hx2 hB0 hB1
  by_cases h8 : 8 ≤ r
  · go_wp2_with (refine wpList_storeB rfl 94 (.tmp 2) (.tmp 16) rfl w.heap.size 94 _ _ (by exact rfl) (by exact rfl) (by exact HB0.out) (by exact rfl) (by exact size_rate) (by simp [Value.oneCell']) ?_)
    refine bodyPost_ret (v := rateVal r) ?_ rfl ⟨rfl, ?_⟩
    · rw [HB.out h8]
      exact results_B (P := Tryd.prog) Tryd.results52 (g := w.heap.size) rfl (by exact HB0.out.put _) Tryd.underlying94 rfl size_rate
    · exact HX.out.put (Nat.le_refl _) _ _
  · have h7 : r ≤ 7 := by omega
    have HT7 := Lib.hid (HT.out h7)
    have hr8 : r < 8 := by omega
    clear HT h8
    go_wp2_with (first | (refine wpList_load_mid rfl 94 (.tmp 18) rfl (w.heap.size + 1) (r.toNat * 4) (by first | exact rfl | (simp; done)) [.string (rName r), .int .i64 (rTicks r), .int .i64 (rNom r), .bool (rDrop r)] _ (fun j v hv => by rw [HB1.out.cell]; exact HT7.out j v hv) Tryd.underlying94 rfl (by exact size_rate) ?_) | (refine wpList_storeB rfl 94 (.tmp 2) (.tmp 19) rfl w.heap.size 94 _ _ (by exact rfl) (by exact rfl) (by exact HB0.out) (by exact rfl) (by exact size_rate) (by simp [Value.oneCell']) ?_))
    refine bodyPost_ret (v := rateVal r) ?_ rfl ⟨rfl, ?_⟩
    · exact results_B (P := Tryd.prog) Tryd.results52 (g := w.heap.size) rfl (by exact HB0.out.put _) Tryd.underlying94 rfl size_rate
    · exact HX.out.put (Nat.le_refl _) _ _
end Go.Proofs.YtffianmhojiomaaDoor
