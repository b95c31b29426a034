/- The walks of the reference's charset: Repertoire, Index, Valid. -/
import Derived.Test.YtffianmhojiomaaDoorCharB
import Derived.Lib.ValidLaws
import Derived.Lib.TrimUEq
namespace Go.Proofs.YtffianmhojiomaaDoor
set_option linter.unusedVariables false
set_option linter.unusedSimpArgs false
open Go.RowKit

set_option maxRecDepth 100000 in
theorem Repertoire_any (w : World) : Calls Tryd.prog 83 #[] w fun e w' => e = .returned (.string allBytes) ∧ w = w' := by
  go_enter Tryd.func83, Tryd.ntmps83
  go_wp2
  go_ret
  exact ⟨rfl, rfl⟩

set_option maxRecDepth 100000 in
set_option maxHeartbeats 1000000 in
theorem RIndex_any (r : Int) (w : World) : Calls Tryd.prog 66 #[.int .i32 r] w fun e w' => e = .returned (.int .i64 (idx r)) ∧ Ext w w' := by
  by_cases h1 : 32 ≤ r ∧ r ≤ 126
  · obtain ⟨h1, h2⟩ := h1
    go_enter Tryd.func66, Tryd.ntmps66
    go_wp2_with fail
    go_ret
    exact ⟨ret_int (by unfold idx; rw [if_pos ⟨h1, h2⟩]), Ext.refl _⟩
  · have HF : Hid (idx r = placeL r (runes allBytes 0) 0) := by show _ = _; unfold idx; rw [if_neg h1]
    have hs9 : allBytes.size ≤ 9223372036854775807 := by decide
    have hg : ¬ 32 ≤ r ∨ (32 ≤ r ∧ ¬ r ≤ 126) := by omega
    generalize hs : allBytes = s at *
    rcases hg with hg | ⟨hg, hg2⟩
    all_goals
      clear h1
      go_enter Tryd.func66, Tryd.ntmps66
      go_wp2_with fail
      refine (Repertoire_any w).mono ?_
      rintro e w1 ⟨rfl, rfl⟩
      rw [hs]
      go_wp2_with fail
      go_loopw [3] (fun n wr => PlaceRel s r w n wr) (fun _ wr => s.size - wr.iterPos w.heap.size)
      case atStart => exact ⟨0, 0, Nat.le_refl _, rfl, rfl, rfl⟩
      case round =>
        obtain ⟨pos, k, hk, rfl, rfl, hp⟩ := hrel
        have HP := Lib.hid hp
        clear hp
        by_cases hlt : pos < s.size
        · have hn := run_next_any (P := Tryd.prog) w s pos
          have hstep := Lib.hid (runes_step s pos hlt)
          have hw := dec_pos s pos hlt
          go_wp2
          · go_ret
            have he : ((Utf8.decode s pos).1 : Int) = r := by simpa using ‹((((Utf8.decode s pos).1 : Int)) == r) = true›
            exact ⟨ret_int (by rw [HF.out, HP.out, hstep.out, placeL, if_pos he]), (Ext.refl w).iter s _⟩
          · have he : ¬ ((Utf8.decode s pos).1 : Int) = r := by simpa using ‹((((Utf8.decode s pos).1 : Int)) == r) = false›
            refine ⟨⟨pos + (Utf8.decode s pos).2, k + 1, by omega, by go_num, rfl, ?_⟩, by simp; omega⟩
            rw [HP.out, hstep.out, placeL, if_neg he]
            rfl
        · have hn := run_next_end (P := Tryd.prog) w s pos
          have hend := Lib.hid (runes_end s pos hlt)
          go_wp2
          go_ret
          exact ⟨ret_int (by rw [HF.out, HP.out, hend.out]; rfl), (Ext.refl w).iter s _⟩

/-- U+FFFD is no character of the repertoire -/
theorem idx_err : idx 65533 = -1 := by decide +kernel
theorem bad_runes (s : ByteArray) : ∀ (f pos : Nat), s.size - pos ≤ f → Lib.validD (s.data.toList.drop pos) = false → ((runes s pos).all fun r => decide (0 ≤ idx r)) = false
  | f, pos, hf, hv => by
    by_cases hlt : pos < s.size
    · have hl : s.data.toList.length = s.size := by simp
      have hne : s.data.toList.drop pos ≠ [] := by
        intro h
        have := congrArg List.length h
        rw [List.length_drop, hl] at this
        simp at this
        omega
      rw [Lib.validD_step _ hne, Lib.decodeL_drop, List.drop_drop] at hv
      rw [runes_step s pos hlt, List.all_cons]
      have hw := dec_pos s pos hlt
      by_cases hc : (Utf8.decode s pos).1 = 65533 ∧ (Utf8.decode s pos).2 = 1
      · rw [hc.1]
        have : decide (0 ≤ idx ((65533 : Nat) : Int)) = false := by decide +kernel
        rw [this]; rfl
      · rw [if_neg hc] at hv
        match f, hf with
        | 0, hf => omega
        | f + 1, hf => rw [bad_runes s f (pos + (Utf8.decode s pos).2) (by omega) (by rw [Nat.add_comm] at hv; rw [Nat.add_comm]; exact hv), Bool.and_false]
    · have hl : s.data.toList.length = s.size := by simp
      have : s.data.toList.drop pos = [] := List.drop_eq_nil_of_le (by omega)
      rw [this, Lib.validD_nil] at hv
      cases hv

/-- a text that is not valid has a character that is none -/
theorem vld_runes (s : ByteArray) : vld s = ((runes s 0).all fun r => decide (0 ≤ idx r)) := by
  unfold vld
  cases hv : Lib.validD s.data.toList
  · rw [bad_runes s s.size 0 (by omega) (by simpa using hv)]; rfl
  · rfl

set_option maxHeartbeats 400000 in
theorem RValid_any (s : ByteArray) (w : World) (hs : s.size ≤ 9223372036854775807) :
    Calls Tryd.prog 46 #[.string s] w fun e w' => e = .returned (.bool (vld s)) ∧ Ext w w' := by
  have HF := Lib.hid (vld_runes s)
  have h1 := Ext.refl w
  go_enter Tryd.func46, Tryd.ntmps46
  go_wp2_with fail
  go_loopw [] (fun wr => ValidRel s w w.heap.size wr) (fun wr => s.size - wr.iterPos w.heap.size)
  case atStart => exact ⟨0, w.iter_heap s 0, h1.iter s 0, rfl⟩
  case round =>
    obtain ⟨pos, hk, hx, hp⟩ := hrel
    have HP := Lib.hid hp
    have HK := Lib.hid hk
    clear hp
    by_cases hlt : pos < s.size
    · have hn := fun ty => Lib.run_next_any_at (P := Tryd.prog) wr _ s pos ty hk hlt
      have hstep := Lib.hid (runes_step s pos hlt)
      have hw := dec_pos s pos hlt
      have hk2 := Lib.hid (Lib.iterAt_heap wr _ s pos (pos + (Utf8.decode s pos).2) hk)
      clear hk
      go_wp2_with fail
      refine (RIndex_any _ _).mono ?_
      rintro e w2 ⟨rfl, h2⟩
      have hx2 : Ext w w2 := (hx.iterAt h1.size s _).trans h2
      have hk3 := Lib.hid (h2.obj hk2.out)
      by_cases hi : idx ((Utf8.decode s pos).1 : Int) < 0
      · go_wp2_with fail
        go_ret
        exact ⟨by rw [HF.out, HP.out, hstep.out, List.all_cons, decide_eq_false (by omega)]; rfl, hx2⟩
      · go_wp2_with fail
        refine ⟨⟨_, hk3.out, hx2, ?_⟩, ?_⟩
        · rw [HP.out, hstep.out, List.all_cons, decide_eq_true (by omega), Bool.true_and]
        · rw [iterPos_of hk3.out, iterPos_of HK.out]; omega
    · have hn := fun ty => Lib.run_next_end_at (P := Tryd.prog) wr _ s pos ty hk hlt
      have hend := Lib.hid (runes_end s pos hlt)
      clear hk
      go_wp2_with fail
      go_ret
      exact ⟨by rw [HF.out, HP.out, hend.out]; rfl, hx⟩
end Go.Proofs.YtffianmhojiomaaDoor
