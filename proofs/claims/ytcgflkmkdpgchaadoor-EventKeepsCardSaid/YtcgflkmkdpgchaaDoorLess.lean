/- The walks of cmp.Compare, cmp.Or, event.Less and of the reference's Less. -/
import Derived.Test.YtcgflkmkdpgchaaDoorEvent
import Derived.Test.YtcgflkmkdpgchaaDoorBlk
namespace Go.Proofs.YtcgflkmkdpgchaaDoor
set_option linter.unusedVariables false
set_option linter.unusedSimpArgs false
open Go.RowKit

def cmpI (a b : Int) : Int := if a < b then -1 else if b < a then 1 else 0
theorem isNaN_any (a : Int) (w : World) : Calls Tryd.prog 41 #[.int .i64 a] w fun e w' => e = .returned (.bool false) ∧ w = w' := by
  go_enter Tryd.func41, Tryd.ntmps41
  go_wp2
  go_ret
  exact ⟨rfl, rfl⟩
set_option maxHeartbeats 400000 in
theorem Compare_any (a b : Int) (w : World) : Calls Tryd.prog 27 #[.int .i64 a, .int .i64 b] w fun e w' => e = .returned (.int .i64 (cmpI a b)) ∧ w = w' := by
  go_enter Tryd.func27, Tryd.ntmps27
  go_wp2_with (first | (go_at_call 41; refine (isNaN_any _ _).mono ?_; rintro e w' ⟨rfl, rfl⟩))
  all_goals go_ret
  · exact ⟨ret_int (by unfold cmpI; simp; omega), rfl⟩
  · exact ⟨ret_int (by unfold cmpI; rw [if_neg (by omega), if_pos (by omega)]), rfl⟩
  · exact ⟨ret_int (by unfold cmpI; rw [if_neg (by omega), if_neg (by omega)]), rfl⟩
def orI (a b : Int) : Int := if a ≠ 0 then a else b
set_option maxHeartbeats 400000 in
theorem Or_any (a b : Int) (g c : Nat) (w : World) (h0 : w.cell? ⟨g, 0, none⟩ = some (.int .i64 a)) (h1 : w.cell? ⟨g, 1, none⟩ = some (.int .i64 b)) :
   Calls Tryd.prog 26 #[.slice (some ⟨g, 0, none⟩) 2 c] w fun e w' => e = .returned (.int .i64 (orI a b)) ∧ w = w' := by
  go_enter Tryd.func26, Tryd.ntmps26
  go_wp2
  refine wp_loop_rounds 3 ?_; rw [rounds_succ]
  by_cases ha : (a != 0) = true
  · go_wp2
    go_ret
    exact ⟨ret_int (by unfold orI; simp at ha; simp [ha]), rfl⟩
  · have ha' : (a != 0) = false := by simpa using ha
    go_wp2
    rw [rounds_succ]
    by_cases hb : (b != 0) = true
    · go_wp2
      go_ret
      exact ⟨ret_int (by unfold orI; simp at ha'; simp [ha']), rfl⟩
    · have hb' : (b != 0) = false := by simpa using hb
      go_wp2
      rw [rounds_succ]
      go_wp2
      go_ret
      exact ⟨ret_int (by unfold orI; simp at ha' hb'; simp [ha', hb']), rfl⟩

/-- is an event ahead of another one? -/
def lessB (x y : Ev) : Bool := decide (x.inn < y.inn ∨ x.inn = y.inn ∧ x.id < y.id)
theorem less_eq (x y : Ev) : decide (orI (cmpI x.inn y.inn) (cmpI x.id y.id) < 0) = lessB x y := by
  unfold lessB orI cmpI
  congr 1
  apply propext
  repeat' split
  all_goals omega

set_option maxRecDepth 100000 in
set_option maxHeartbeats 2000000 in
theorem Less_any (x y : Ev) (A : Option Addr) (n c : Nat) (B : Option Addr) (m d : Nat) (w : World) :
    Calls Tryd.prog 12 #[.agg (x.cells A n c), .agg (y.cells B m d)] w fun e w' => e = .returned (.bool (lessB x y)) ∧ Ext w w' := by
  have hx := ((Ext.refl w).alloc (.cells (x.cells A n c) 27)).alloc (.cells (y.cells B m d) 27)
  have HX := Lib.hid hx
  clear hx
  unfold Ev.cells at HX ⊢
  go_enter Tryd.func12, Tryd.ntmps12
  go_wp2_with fail
  go_region_held3 (fun w' => w'.cell? ⟨w.heap.size, 0, none⟩ = some (.int .i64 x.id) ∧ w'.cell? ⟨w.heap.size, 1, none⟩ = some (.int .i64 x.inn) ∧ w'.cell? ⟨w.heap.size + 1, 0, none⟩ = some (.int .i64 y.id) ∧ w'.cell? ⟨w.heap.size + 1, 1, none⟩ = some (.int .i64 y.inn)) (go_keep) (first | (go_at_call 27; refine (Compare_any _ _ _).mono ?_; rintro e w1 ⟨rfl, rfl⟩) | (go_at_call 26; refine (Or_any (cmpI x.inn y.inn) (cmpI x.id y.id) _ _ _ (by exact (Blk.drew (Blk.new' (by simp))).cell 0) (by exact (Blk.drew (Blk.new' (by simp))).cell 1)).mono ?_; rintro e w1 ⟨rfl, rfl⟩))
  go_wp2_with fail
  go_ret
  exact ⟨ret_bool (less_eq x y), (HX.out.drew).alloc _⟩

set_option maxRecDepth 100000 in
set_option maxHeartbeats 2000000 in
theorem RLess_any (x y : Ev) (A : Option Addr) (n c : Nat) (B : Option Addr) (m d : Nat) (w : World) :
    Calls Tryd.prog 13 #[.agg (x.cells A n c), .agg (y.cells B m d)] w fun e w' => e = .returned (.bool (lessB x y)) ∧ Ext w w' := by
  have hx := ((Ext.refl w).alloc (.cells (x.cells A n c) 27)).alloc (.cells (y.cells B m d) 27)
  have HX := Lib.hid hx
  clear hx
  unfold Ev.cells at HX ⊢
  by_cases h1 : x.inn < y.inn
  · have HF : Hid (lessB x y = true) := by show _ = _; unfold lessB; exact decide_eq_true (.inl h1)
    go_enter Tryd.func13, Tryd.ntmps13
    go_wp2_with fail
    go_ret
    exact ⟨ret_bool HF.out.symm, HX.out⟩
  · by_cases h2 : x.inn = y.inn
    · have HF : Hid (lessB x y = decide (x.id < y.id)) := by
        show _ = _
        unfold lessB
        congr 1
        apply propext
        omega
      have h2' : (x.inn == y.inn) = true := by simpa using h2
      clear h2
      go_enter Tryd.func13, Tryd.ntmps13
      go_wp2_with fail
      go_ret
      exact ⟨ret_bool HF.out.symm, HX.out⟩
    · have HF : Hid (lessB x y = false) := by show _ = _; unfold lessB; exact decide_eq_false (by omega)
      have h2' : (x.inn == y.inn) = false := by simpa using h2
      clear h2
      go_enter Tryd.func13, Tryd.ntmps13
      go_wp2_with fail
      go_ret
      exact ⟨ret_bool HF.out.symm, HX.out⟩
end Go.Proofs.YtcgflkmkdpgchaaDoor
