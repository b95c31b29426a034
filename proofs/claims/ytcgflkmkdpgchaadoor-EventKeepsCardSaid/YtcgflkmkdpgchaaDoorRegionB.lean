/- The walks of package region (usable, Find, Place). -/
import Derived.Test.YtcgflkmkdpgchaaDoorEql
namespace Go.Proofs.YtcgflkmkdpgchaaDoor
set_option linter.unusedVariables false
set_option linter.unusedSimpArgs false
open Go.RowKit

def Reg.usable (r : Reg) : Bool := decide (r = Reg.default ∨ r.check = 0)

def RegC (w : World) (b o : Nat) (r : Reg) : Prop :=
  w.cell? ⟨b, o, none⟩ = some (.string r.name) ∧ w.cell? ⟨b, o + 1, none⟩ = some (.int .i64 r.top) ∧ w.cell? ⟨b, o + 2, none⟩ = some (.int .i64 r.height) ∧ w.cell? ⟨b, o + 3, none⟩ = some (.int .i64 r.left) ∧
  w.cell? ⟨b, o + 4, none⟩ = some (.int .i64 r.width) ∧ w.cell? ⟨b, o + 5, none⟩ = some (.int .u8 r.align) ∧ w.cell? ⟨b, o + 6, none⟩ = some (.bool r.bottom)
theorem RegC.stays : Stays RegC := fun _ _ _ _ _ k h => ⟨k.cell h.1, k.cell h.2.1, k.cell h.2.2.1, k.cell h.2.2.2.1, k.cell h.2.2.2.2.1, k.cell h.2.2.2.2.2.1, k.cell h.2.2.2.2.2.2⟩

set_option maxHeartbeats 1000000 in
theorem usable_any (r : Reg) (w : World) (hs : r.name.size ≤ 9223372036854775807) : Calls Tryd.prog 51 #[r.val] w fun e w' => e = .returned (.bool r.usable) ∧ Ext w w' := by
  have hR := fun w => RCheck_any r w hs
  by_cases hd : r = Reg.default
  · have HF : Hid (r.usable = true) := by show r.usable = true; unfold Reg.usable; exact decide_eq_true (.inl hd)
    have hq := fun w => eql_reg_yes Reg.default w
    subst hd
    clear hR hs
    unfold Reg.val Reg.default at hq ⊢
    unfold Reg.default at HF
    dsimp only at hq HF ⊢
    go_enter Tryd.func51, Tryd.ntmps51
    go_wp2_with fail
    go_region_with (first | (go_at_call 46; refine (Default_any _).mono ?_; rintro e w1 ⟨rfl, hx1⟩; have hx1' := Lib.hid hx1; (have hc := fun o u => hx1.cell (p := ⟨w.heap.size, o, none⟩) (u := u)); simp at hc; clear hx1; unfold Reg.val Reg.default))
    all_goals go_wp2
    all_goals go_ret
    all_goals exact ⟨by rw [HF.out]; rfl, (((Ext.refl w).alloc _).drew).trans hx1'.out⟩
  · obtain ⟨nm, top, hgt, lft, wid, al, bot⟩ := r
    have hq := fun w => eql_reg_no hd w
    have HR := Lib.hid hR
    have HF : Hid (Reg.usable ⟨nm, top, hgt, lft, wid, al, bot⟩ = decide (Reg.check ⟨nm, top, hgt, lft, wid, al, bot⟩ = 0)) := by
      show Reg.usable _ = _
      unfold Reg.usable
      congr 1
      simp [hd]
    clear hR hd
    unfold Reg.val at HR ⊢
    unfold Reg.val Reg.default at hq
    dsimp only at HR hq ⊢
    go_enter Tryd.func51, Tryd.ntmps51
    go_wp2_with fail
    go_region_held3 (fun w' => w'.cell? ⟨w.heap.size, 0, none⟩ = some (.string nm) ∧ w'.cell? ⟨w.heap.size, 1, none⟩ = some (.int .i64 top) ∧ w'.cell? ⟨w.heap.size, 2, none⟩ = some (.int .i64 hgt) ∧ w'.cell? ⟨w.heap.size, 3, none⟩ = some (.int .i64 lft) ∧ w'.cell? ⟨w.heap.size, 4, none⟩ = some (.int .i64 wid) ∧ w'.cell? ⟨w.heap.size, 5, none⟩ = some (.int .u8 al) ∧ w'.cell? ⟨w.heap.size, 6, none⟩ = some (.bool bot))
      (first | go_keep | (go_split_ands; refine ⟨?_, ?_, ?_, ?_, ?_, ?_, ?_⟩ <;> (apply hx2.cell; assumption)) | (go_split_ands; refine ⟨?_, ?_, ?_, ?_, ?_, ?_, ?_⟩ <;> (apply hx1.cell; assumption)))
      (first | (go_at_call 46; refine (Default_any _).mono ?_; rintro e w1 ⟨rfl, hx1⟩; unfold Reg.val Reg.default) | (go_at_call 61; refine (HR.out _).mono ?_; rintro e w2 ⟨rfl, hx2⟩))
    go_wp2
    all_goals go_ret
    all_goals exact ⟨by rw [HF.out]; exact ret_bool rfl, ((((Ext.refl w).alloc _).drew).trans hx1).trans hx2⟩
end Go.Proofs.YtcgflkmkdpgchaaDoor
