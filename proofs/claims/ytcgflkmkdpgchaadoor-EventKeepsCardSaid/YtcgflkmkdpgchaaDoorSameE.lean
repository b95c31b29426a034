/- The walks of event.Same and of the reference's Same. -/
import Derived.Test.YtcgflkmkdpgchaaDoorSame
import Derived.Test.YtcgflkmkdpgchaaDoorEvent
namespace Go.Proofs.YtcgflkmkdpgchaaDoor
set_option linter.unusedVariables false
set_option linter.unusedSimpArgs false
open Go.RowKit

theorem eql_span (a b a' b' : Int) (w : World) : (binOp .eql 23 (.agg #[.int .i64 a, .int .i64 b]) (.agg #[.int .i64 a', .int .i64 b'])).run Tryd.prog w = .ok (.bool (decide (a = a' ∧ b = b'))) w := by
  go_simp
  repeat' split
  all_goals simp_all

theorem ev_ne {x y : Ev} (h : ¬ (x.id = y.id ∧ (x.inn = y.inn ∧ x.out = y.out) ∧ x.region.toList = y.region.toList ∧ x.kind = y.kind ∧ x.speaker.toList = y.speaker.toList ∧ x.rows = y.rows)) : decide (x = y) = false :=
  decide_eq_false (by rintro rfl; exact h ⟨rfl, ⟨rfl, rfl⟩, rfl, rfl, rfl, rfl⟩)
theorem ev_eq {x y : Ev} (h1 : x.id = y.id) (h2 : x.inn = y.inn ∧ x.out = y.out) (h3 : x.region.toList = y.region.toList) (h4 : x.kind = y.kind) (h5 : x.speaker.toList = y.speaker.toList) : decide (x = y) = decide (x.rows = y.rows) := by
  obtain ⟨a1, a2, a3, a4, a5, a6, a7⟩ := x
  obtain ⟨b1, b2, b3, b4, b5, b6, b7⟩ := y
  rw [toList_inj] at h3 h5
  simp_all

set_option maxRecDepth 100000 in
set_option maxHeartbeats 4000000 in
theorem ESame_any (x y : Ev) (A : Option Addr) (n c : Nat) (B : Option Addr) (m d : Nat) (w : World) (h1 : EvAt w x A n c) (h2 : EvAt w y B m d) :
    Calls Tryd.prog 18 #[.agg (x.cells A n c), .agg (y.cells B m d)] w fun e w' => e = .returned (.bool (decide (x = y))) ∧ Ext w w' := by
  have hn24 : n * 24 ≤ 140737488355328 := h1.2.2
  have H1 := Lib.hid h1
  have H2 := Lib.hid h2
  clear h1 h2
  have hx := ((Ext.refl w).alloc (.cells (x.cells A n c) 27)).alloc (.cells (y.cells B m d) 27)
  have HX := Lib.hid hx
  clear hx
  unfold Ev.cells at HX ⊢
  by_cases h0 : x.id = y.id
  · have b0 : (x.id == y.id) = true := by simpa using h0
    have E0 := Lib.hid h0
    clear h0
    by_cases h1 : x.inn = y.inn ∧ x.out = y.out
    · have b1 := fun w => (eql_span x.inn x.out y.inn y.out w).trans (by rw [decide_eq_true h1])
      have E1 := Lib.hid h1
      clear h1
      by_cases h2 : x.region.toList = y.region.toList
      · have b2 : (x.region.toList == y.region.toList) = true := by simpa using h2
        have E2 := Lib.hid h2
        clear h2
        by_cases h3 : x.kind = y.kind
        · have b3 : (x.kind == y.kind) = true := by simpa using h3
          have E3 := Lib.hid h3
          clear h3
          by_cases h4 : x.speaker.toList = y.speaker.toList
          · have b4 : (x.speaker.toList == y.speaker.toList) = true := by simpa using h4
            have E4 := Lib.hid h4
            clear h4
            have HF : Hid (decide (x = y) = decide (x.rows = y.rows)) := ev_eq E0.out E1.out E2.out E3.out E4.out
            go_enter Tryd.func18, Tryd.ntmps18
            go_wp2_with fail
            refine (SameRows_any A n c B m d x.rows y.rows _ (H1.out.1.ext HX.out) (H2.out.1.ext HX.out) (by omega)).mono ?_
            rintro en w1 ⟨rfl, hx1⟩
            go_wp2_with fail
            go_ret
            exact ⟨ret_bool HF.out.symm, HX.out.trans hx1⟩
          · have b4 : (x.speaker.toList == y.speaker.toList) = false := by simpa using h4
            have HF : Hid (decide (x = y) = false) := ev_ne (fun h => h4 h.2.2.2.2.1)
            clear h4
            go_enter Tryd.func18, Tryd.ntmps18
            go_wp2_with fail
            go_ret
            exact ⟨ret_bool HF.out.symm, HX.out⟩
        · have b3 : (x.kind == y.kind) = false := by simpa using h3
          have HF : Hid (decide (x = y) = false) := ev_ne (fun h => h3 h.2.2.2.1)
          clear h3
          go_enter Tryd.func18, Tryd.ntmps18
          go_wp2_with fail
          go_ret
          exact ⟨ret_bool HF.out.symm, HX.out⟩
      · have b2 : (x.region.toList == y.region.toList) = false := by simpa using h2
        have HF : Hid (decide (x = y) = false) := ev_ne (fun h => h2 h.2.2.1)
        clear h2
        go_enter Tryd.func18, Tryd.ntmps18
        go_wp2_with fail
        go_ret
        exact ⟨ret_bool HF.out.symm, HX.out⟩
    · have b1 := fun w => (eql_span x.inn x.out y.inn y.out w).trans (by rw [decide_eq_false h1])
      have HF : Hid (decide (x = y) = false) := ev_ne (fun h => h1 h.2.1)
      clear h1
      go_enter Tryd.func18, Tryd.ntmps18
      go_wp2_with fail
      go_ret
      exact ⟨ret_bool HF.out.symm, HX.out⟩
  · have b0 : (x.id == y.id) = false := by simpa using h0
    have HF : Hid (decide (x = y) = false) := ev_ne (fun h => h0 h.1)
    clear h0
    go_enter Tryd.func18, Tryd.ntmps18
    go_wp2_with fail
    go_ret
    exact ⟨ret_bool HF.out.symm, HX.out⟩

set_option maxRecDepth 100000 in
set_option maxHeartbeats 4000000 in
theorem RESame_any (x y : Ev) (A : Option Addr) (n c : Nat) (B : Option Addr) (m d : Nat) (w : World) (h1 : EvAt w x A n c) (h2 : EvAt w y B m d) :
    Calls Tryd.prog 11 #[.agg (x.cells A n c), .agg (y.cells B m d)] w fun e w' => e = .returned (.bool (decide (x = y))) ∧ Ext w w' := by
  have hn24 : n * 24 ≤ 140737488355328 := h1.2.2
  have H1 := Lib.hid h1
  have H2 := Lib.hid h2
  clear h1 h2
  have hx := ((Ext.refl w).alloc (.cells (x.cells A n c) 27)).alloc (.cells (y.cells B m d) 27)
  have HX := Lib.hid hx
  clear hx
  unfold Ev.cells at HX ⊢
  by_cases h0 : x.id = y.id
  · have b0 : (x.id == y.id) = true := by simpa using h0
    have E0 := Lib.hid h0
    clear h0
    by_cases h1 : x.inn = y.inn ∧ x.out = y.out
    · have b1 := fun w => (eql_span x.inn x.out y.inn y.out w).trans (by rw [decide_eq_true h1])
      have E1 := Lib.hid h1
      clear h1
      by_cases h2 : x.region.toList = y.region.toList
      · have b2 : (x.region.toList == y.region.toList) = true := by simpa using h2
        have E2 := Lib.hid h2
        clear h2
        by_cases h3 : x.kind = y.kind
        · have b3 : (x.kind == y.kind) = true := by simpa using h3
          have E3 := Lib.hid h3
          clear h3
          by_cases h4 : x.speaker.toList = y.speaker.toList
          · have b4 : (x.speaker.toList == y.speaker.toList) = true := by simpa using h4
            have E4 := Lib.hid h4
            clear h4
            have HF : Hid (decide (x = y) = decide (x.rows = y.rows)) := ev_eq E0.out E1.out E2.out E3.out E4.out
            go_enter Tryd.func11, Tryd.ntmps11
            go_wp2_with fail
            refine (RSameRows_any A n c B m d x.rows y.rows _ (H1.out.1.ext HX.out) (H2.out.1.ext HX.out) (by omega)).mono ?_
            rintro en w1 ⟨rfl, hx1⟩
            go_wp2_with fail
            go_ret
            exact ⟨ret_bool HF.out.symm, HX.out.trans hx1⟩
          · have b4 : (x.speaker.toList == y.speaker.toList) = false := by simpa using h4
            have HF : Hid (decide (x = y) = false) := ev_ne (fun h => h4 h.2.2.2.2.1)
            clear h4
            go_enter Tryd.func11, Tryd.ntmps11
            go_wp2_with fail
            go_ret
            exact ⟨ret_bool HF.out.symm, HX.out⟩
        · have b3 : (x.kind == y.kind) = false := by simpa using h3
          have HF : Hid (decide (x = y) = false) := ev_ne (fun h => h3 h.2.2.2.1)
          clear h3
          go_enter Tryd.func11, Tryd.ntmps11
          go_wp2_with fail
          go_ret
          exact ⟨ret_bool HF.out.symm, HX.out⟩
      · have b2 : (x.region.toList == y.region.toList) = false := by simpa using h2
        have HF : Hid (decide (x = y) = false) := ev_ne (fun h => h2 h.2.2.1)
        clear h2
        go_enter Tryd.func11, Tryd.ntmps11
        go_wp2_with fail
        go_ret
        exact ⟨ret_bool HF.out.symm, HX.out⟩
    · have b1 := fun w => (eql_span x.inn x.out y.inn y.out w).trans (by rw [decide_eq_false h1])
      have HF : Hid (decide (x = y) = false) := ev_ne (fun h => h1 h.2.1)
      clear h1
      go_enter Tryd.func11, Tryd.ntmps11
      go_wp2_with fail
      go_ret
      exact ⟨ret_bool HF.out.symm, HX.out⟩
  · have b0 : (x.id == y.id) = false := by simpa using h0
    have HF : Hid (decide (x = y) = false) := ev_ne (fun h => h0 h.1)
    clear h0
    go_enter Tryd.func11, Tryd.ntmps11
    go_wp2_with fail
    go_ret
    exact ⟨ret_bool HF.out.symm, HX.out⟩
end Go.Proofs.YtcgflkmkdpgchaaDoor
