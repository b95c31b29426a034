/- The walk of the reference's Plain of an event. -/
import Derived.Test.YtagfedbdakmlgaaGreatDoorPk18
namespace Go.Proofs.YtagfedbdakmlgaaGreatDoor
set_option linter.unusedVariables false
set_option linter.unusedSimpArgs false
open Go.RowKit

theorem joinL_snoc (l : List (List UInt8)) (x : List UInt8) (h : l ≠ []) : Lib.join (l ++ [x]) [10] = Lib.join l [10] ++ ([10] ++ x) := by
  cases l with
  | nil => exact absurd rfl h
  | cons a r => rw [List.cons_append, Lib.join_cons, Lib.join_cons]; simp [Lib.joinTail]
theorem joinL_one (x : List UInt8) : Lib.join ([] ++ [x]) [10] = x := Lib.join_one x [10]
def REPlRel (w1 : World) (n : Nat) (e : Ev) (v i : Value) (wr : World) : Prop := ∃ k : Nat, k ≤ n ∧ i = .int .i64 k ∧ v = .string ⟨(Lib.join ((e.rows.take k).map rowText) [10]).toArray⟩ ∧ Ext w1 wr
set_option maxRecDepth 100000 in
set_option maxHeartbeats 1000000 in
theorem R11Plain_any (e : Ev) (A : Option Addr) (n c : Nat) (w : World) (he : EvAt w e A n c) (hby : e.bytes ≤ 1099511627776) (hrn : ∀ r ∈ e.rows, r.length ≤ 4611686018427387904) :
    Calls Tryz.prog 87 #[.agg (e.cells A n c)] w fun en w' => en = .returned (.string ⟨e.text.toArray⟩) ∧ Ext w w' := by
  have hn24 : n * 24 ≤ 140737488355328 := by have := he.2; omega
  have HA := Lib.hid he.1
  have HLn := Lib.hid he.len
  have HRn := Lib.hid hrn
  have HX := Lib.hid ((Ext.refl w).alloc (.cells (e.cells A n c) 66))
  clear he hrn
  unfold Ev.cells at *
  go_enter Tryz.func87, Tryz.ntmps87
  go_wp2_with fail
  go_loopw [3, 9] (fun v i wr => REPlRel w n e v i wr) (fun _ i _ => n - (intOf i).toNat)
  case atStart => exact ⟨0, Nat.zero_le _, rfl, rfl, HX.out⟩
  case round =>
    obtain ⟨k, hk, rfl, rfl, hx⟩ := hrel
    by_cases hlt : k < n
    · obtain ⟨b, off, r, rfl, hr, A', n', c', hcell, hnc, hc40, hruns⟩ := (HA.out.ext hx).at_ hlt
      simp only [Nat.mul_one] at hcell
      have HR := Lib.hid hruns
      have h1 := sum_take_le e.rows k r hr
      have htk : (e.rows.take (k + 1)).map rowText = (e.rows.take k).map rowText ++ [rowText r] := by
        rw [take_snoc' e.rows k r hr, List.map_append]
        rfl
      have hby' : (e.rows.map rowBytes).sum ≤ 1099511627776 := hby
      have hrb : rowBytes r ≤ 1099511627776 := by omega
      have hnr : n' ≤ 4611686018427387904 := by have h5 := hruns.len; have h6 := HRn.out r (List.mem_of_getElem? hr); omega
      have hjl : (Lib.join ((e.rows.take k).map rowText) [10]).length ≤ 1099511627776 + n := by
        have h7 := join_len [10] ((e.rows.take k).map rowText)
        have h8 : (((e.rows.take k).map rowText).map List.length) = (e.rows.take k).map rowBytes := by
          rw [List.map_map]
          apply List.map_congr_left
          intro r _
          exact rowText_len r
        rw [h8] at h7
        simp only [List.length_map, List.length_singleton, Nat.mul_one] at h7
        have h9 := List.length_take_le k e.rows
        have h10 : (e.rows.take k).length ≤ n := by have := HLn.out; rw [List.length_take]; omega
        omega
      have hrl := rowText_len r
      have HJ := Lib.hid htk
      have HNe : Hid (0 < k → (e.rows.take k).map rowText ≠ []) := by
        show _ → _
        intro h0 hn
        have := congrArg List.length hn
        have h9 := HLn.out
        rw [List.length_map, List.length_take] at this
        simp only [List.length_nil] at this
        omega
      clear hr hruns h1 hby' htk
      by_cases hk0 : k = 0
      · have hkz : ¬ (0 : Int) < (k : Int) := by omega
        have HT : Hid (Lib.join ((e.rows.take (k + 1)).map rowText) [10] = rowText r) := by
          show _ = _
          rw [HJ.out, hk0]
          exact joinL_one _
        have HT0 : Hid (Lib.join ((e.rows.take k).map rowText) [10] = []) := by
          show _ = _
          rw [hk0]
          rfl
        have hz : (Lib.join ((e.rows.take k).map rowText) [10]).length = 0 := by rw [HT0.out]; rfl
        obtain ⟨xs, hxs⟩ : ∃ xs, xs = Lib.join ((e.rows.take k).map rowText) [10] := ⟨_, rfl⟩
        rw [← hxs]
        rw [← hxs] at HT0 hz
        clear hjl HJ HNe hk0 hxs
        go_wp2_with fail
        refine (R9Plain_any A' n' c' r _ (HR.out.ext ((Ext.refl wr).alloc _)) (by omega) hnr).mono ?_
        rintro en w2 ⟨rfl, hx2⟩
        go_wp2_with fail
        refine ⟨⟨k + 1, by omega, by go_num, ?_, (hx.alloc _).trans hx2⟩, by simp [intOf]; omega⟩
        rw [HT.out, HT0.out]
        exact congrArg Value.string (ByteArray.ext (by simp [ByteArray.data_append]; try rfl))
      · have hkp : (0 : Int) < (k : Int) := by omega
        have HT : Hid (Lib.join ((e.rows.take (k + 1)).map rowText) [10] = Lib.join ((e.rows.take k).map rowText) [10] ++ ([10] ++ rowText r)) := by
          show _ = _
          rw [HJ.out]
          exact joinL_snoc _ _ (HNe.out (by omega))
        obtain ⟨xs, hxs⟩ : ∃ xs, xs = Lib.join ((e.rows.take k).map rowText) [10] := ⟨_, rfl⟩
        rw [← hxs]
        rw [← hxs] at HT hjl
        clear hxs HJ HNe
        go_wp2_with fail
        refine (R9Plain_any A' n' c' r _ (HR.out.ext ((Ext.refl wr).alloc _)) (by omega) hnr).mono ?_
        rintro en w2 ⟨rfl, hx2⟩
        go_wp2_with fail
        refine ⟨⟨k + 1, by omega, by go_num, ?_, (hx.alloc _).trans hx2⟩, by simp [intOf]; omega⟩
        rw [HT.out]
        exact congrArg Value.string (ByteArray.ext (by simp [ByteArray.data_append]))
    · have HT : Hid (e.rows.take k = e.rows) := List.take_of_length_le (by rw [HLn.out]; omega)
      go_wp2_with fail
      go_ret
      exact ⟨by rw [HT.out]; rfl, hx⟩
end Go.Proofs.YtagfedbdakmlgaaGreatDoor
