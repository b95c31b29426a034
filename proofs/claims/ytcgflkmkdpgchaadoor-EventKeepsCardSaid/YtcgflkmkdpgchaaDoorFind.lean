/- The walk of region.Find. -/
import Derived.Test.YtcgflkmkdpgchaaDoorRegionB
import Derived.Test.YtcgflkmkdpgchaaDoorBlk
namespace Go.Proofs.YtcgflkmkdpgchaaDoor
set_option linter.unusedVariables false
set_option linter.unusedSimpArgs false
open Go.RowKit

def RegsAt (w : World) (A : Option Addr) (n : Nat) (l : List Reg) : Prop := Sl w 7 RegC A n l
theorem RegsAt.ext {w w1 : World} {A : Option Addr} {n : Nat} {l : List Reg} (h : RegsAt w A n l) (k : Ext w w1) : RegsAt w1 A n l := Sl.ext RegC.stays h k

def findR (l : List Reg) (nm : ByteArray) : Option Reg := if nm.toList = [] then some Reg.default else l.find? (fun r => r.name.toList == nm.toList)

def regZero : Array Value := #[.string ⟨#[]⟩, .int .i64 0, .int .i64 0, .int .i64 0, .int .i64 0, .int .u8 0, .bool false]

def FindRel (w : World) (A : Option Addr) (n : Nat) (l : List Reg) (nm : ByteArray) (i : Value) (wr : World) : Prop :=
  ∃ k : Nat, k ≤ n ∧ i = .int .i64 k ∧ Ext (w.alloc (.cells regZero 68)) wr ∧ l.find? (fun r => r.name.toList == nm.toList) = (l.drop k).find? (fun r => r.name.toList == nm.toList)

theorem info_reg : (Tryd.prog.info? 68).map (·.size) = some 7 := by kernel_rfl

theorem find_ret {w' : World} {g : Nat} {r : Reg} {b : Bool} {tmps : Array Value} (hB : Blk w' g 68 #[.string r.name, .int .i64 r.top, .int .i64 r.height, .int .i64 r.left, .int .i64 r.width, .int .u8 r.align, .bool r.bottom])
    (h4 : tmps.getD 4 undef = .pointer (some ⟨g, 0, none⟩)) (h5 : tmps.getD 5 undef = .bool b) : (results Tryd.f31 tmps).run Tryd.prog w' = .ok (.tuple #[r.val, .bool b]) w' := by
  rw [results_B_tmp (P := Tryd.prog) Tryd.results31 h4 hB Tryd.underlying68 rfl info_reg, h5]
  rfl

set_option maxHeartbeats 1000000 in
theorem Find_any (A : Option Addr) (n c : Nat) (l : List Reg) (nm : ByteArray) (w : World) (hl : RegsAt w A n l) (hn : n ≤ 9223372036854775807) :
    Calls Tryd.prog 31 #[.slice A n c, .string nm] w fun e w' => e = .returned (.tuple #[((findR l nm).getD Reg.zero).val, .bool (findR l nm).isSome]) ∧ Ext w w' := by
  by_cases h0 : nm.toList = []
  · have HF : Hid (findR l nm = some Reg.default) := by show findR l nm = _; unfold findR; rw [if_pos h0]
    have h0' : nm.toList.isEmpty = true := by rw [h0]; rfl
    clear h0
    go_enter Tryd.func31, Tryd.ntmps31
    go_wp2_with fail
    refine (Default_any _).mono ?_
    rintro e w1 ⟨rfl, hx1⟩
    unfold Reg.val Reg.default
    dsimp only
    have hB := Lib.hid (Blk.ext (Blk.new w _ _) hx1)
    go_wp2_with (refine wpList_storeB rfl 68 (.tmp 4) (.tmp 10) rfl w.heap.size 68 _ _ (by exact rfl) (by exact rfl) hB.out (by exact rfl) (by exact info_reg) (by simp [Value.oneCell']) ?_)
    refine bodyPost_ret (v := .tuple #[Reg.default.val, .bool true]) ?_ rfl ⟨?_, ?_⟩
    · exact find_ret (r := Reg.default) (hB.out.put _) rfl rfl
    · rw [HF.out]; rfl
    · exact (((Ext.refl w).alloc _).trans hx1).put (Nat.le_refl _) _ _
  · have HF : Hid (findR l nm = l.find? (fun r => r.name.toList == nm.toList)) := by show findR l nm = _; unfold findR; rw [if_neg h0]
    have h0' : nm.toList.isEmpty = false := by cases h : nm.toList with
      | nil => exact absurd h h0
      | cons a b => rfl
    clear h0
    have HL := Lib.hid hl
    clear hl
    go_enter Tryd.func31, Tryd.ntmps31
    go_wp2_with fail
    go_loopw [13] (fun i wr => FindRel w A n l nm i wr) (fun i _ => n - (intOf i).toNat)
    case atStart => exact ⟨0, Nat.zero_le _, rfl, Ext.refl _, rfl⟩
    case round =>
      obtain ⟨k, hk, rfl, hx, hp⟩ := hrel
      have HP := Lib.hid hp
      clear hp
      have hB := Lib.hid (Blk.ext (Blk.new w _ _) hx)
      have hxw : Ext w wr := ((Ext.refl w).alloc _).trans hx
      by_cases hlt : k < n
      · obtain ⟨b, off, r, rfl, hr, hC⟩ := (HL.out.ext hxw).at_ hlt
        have HR := Lib.hid hr
        clear hr
        obtain ⟨c0, c1, c2, c3, c4, c5, c6⟩ := hC
        have hdrop : Hid (l.drop k = r :: l.drop (k + 1)) := by
          show l.drop k = _
          have hkl := (List.getElem?_eq_some_iff.1 HR.out).1
          rw [List.drop_eq_getElem_cons hkl]
          congr 1
          exact (List.getElem?_eq_some_iff.1 HR.out).2
        by_cases hq : (r.name.toList == nm.toList) = true
        · go_wp2_with (refine wpList_storeB rfl 68 (.tmp 4) (.tmp 21) rfl w.heap.size 68 _ _ (by exact rfl) (by exact rfl) (hB.out.alloc _) (by exact rfl) (by exact info_reg) (by simp [Value.oneCell']) ?_)
          refine bodyPost_ret (v := .tuple #[r.val, .bool true]) ?_ rfl ⟨?_, ?_⟩
          · exact find_ret (r := r) ((hB.out.alloc _).put _) rfl rfl
          · rw [HF.out, HP.out, hdrop.out, List.find?_cons, hq]; rfl
          · exact (hxw.alloc _).put (Nat.le_refl _) _ _
        · have hq' : (r.name.toList == nm.toList) = false := by simpa using hq
          clear hq
          go_wp2_with fail
          refine ⟨⟨k + 1, by omega, by go_num, hx.alloc _, ?_⟩, by simp [intOf]; omega⟩
          rw [HP.out, hdrop.out, List.find?_cons, hq']
      · have hend : Hid (l.drop k = []) := List.drop_eq_nil_of_le (by rw [HL.out.len]; omega)
        go_wp2_with (refine wpList_storeB rfl 68 (.tmp 4) (.tmp 23) rfl w.heap.size 68 _ _ (by exact rfl) (by exact rfl) hB.out (by exact rfl) (by exact info_reg) (by simp [Value.oneCell']) ?_)
        refine bodyPost_ret (v := .tuple #[Reg.zero.val, .bool false]) ?_ rfl ⟨?_, ?_⟩
        · exact find_ret (r := Reg.zero) (hB.out.put _) rfl rfl
        · rw [HF.out, HP.out, hend.out]; rfl
        · exact hxw.put (Nat.le_refl _) _ _
end Go.Proofs.YtcgflkmkdpgchaaDoor
