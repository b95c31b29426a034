/- The walk of style.Check. -/
import Derived.Test.YtcgflkmkdpgchaaDoorStyleB
namespace Go.Proofs.YtcgflkmkdpgchaaDoor
set_option linter.unusedVariables false
set_option linter.unusedSimpArgs false
open Go.RowKit

/-- the error of a run behind another one -/
def runErr (p : Option Run) (x : Run) : Int :=
  if vld x.text = false then 10 else if x.text.toList = [] then 4 else if ¬ x.color ≤ 6 then 12 else if vld x.ruby = false then 10 else if (p.any fun q => alikeB q x) = true then 8 else 0
def runsErr : Option Run → Row → Int
  | _, [] => 0
  | p, x :: l => if runErr p x = 0 then runsErr (some x) l else runErr p x
/-- the error of a row -/
def rowErr (l : Row) : Int := if 16 < l.length then 9 else runsErr none l

theorem runErr_text {p : Option Run} {x : Run} (h : vld x.text = false) : runErr p x = 10 := by unfold runErr; rw [if_pos h]
theorem runErr_empty {p : Option Run} {x : Run} (h : vld x.text = true) (he : x.text.toList.isEmpty = true) : runErr p x = 4 := by
  unfold runErr; rw [if_neg (by rw [h]; simp), if_pos (by simpa using he)]
theorem runErr_color {p : Option Run} {x : Run} (h : vld x.text = true) (he : x.text.toList.isEmpty = false) (hc : ¬ x.color ≤ 6) : runErr p x = 12 := by
  unfold runErr; rw [if_neg (by rw [h]; simp), if_neg (by intro hh; rw [hh] at he; simp at he), if_pos hc]
theorem runErr_ruby {p : Option Run} {x : Run} (h : vld x.text = true) (he : x.text.toList.isEmpty = false) (hc : x.color ≤ 6) (hr : vld x.ruby = false) : runErr p x = 10 := by
  unfold runErr; rw [if_neg (by rw [h]; simp), if_neg (by intro hh; rw [hh] at he; simp at he), if_neg (by omega), if_pos hr]
theorem runErr_last {p : Option Run} {x : Run} (h : vld x.text = true) (he : x.text.toList.isEmpty = false) (hc : x.color ≤ 6) (hr : vld x.ruby = true) : runErr p x = if (p.any fun q => alikeB q x) = true then 8 else 0 := by
  unfold runErr; rw [if_neg (by rw [h]; simp), if_neg (by intro hh; rw [hh] at he; simp at he), if_neg (by omega), if_neg (by rw [hr]; simp)]

/-- the run ahead of place k -/
def ahead (l : Row) (k : Nat) : Option Run := if k = 0 then none else l[k - 1]?
theorem ahead_succ (l : Row) (k : Nat) (r : Run) (h : l[k]? = some r) : ahead l (k + 1) = some r := by unfold ahead; rw [if_neg (by omega)]; simpa using h

def CheckRel (w : World) (bx : Array Value) (n : Nat) (l : Row) (i : Value) (wr : World) : Prop :=
  ∃ k : Nat, k ≤ n ∧ i = .int .i64 k ∧ Ext (w.alloc (.cells bx 43)) wr ∧ runsErr none l = runsErr (ahead l k) (l.drop k)

theorem isEmpty_iff (s : ByteArray) : s.toList.isEmpty = true ↔ s.toList = [] := by simp

set_option maxRecDepth 100000 in
set_option maxHeartbeats 2000000 in
theorem SCheck_any (A : Option Addr) (n c : Nat) (l : Row) (w : World) (hE : Env w) (hl : RunsAt w A n l) (hb : ∀ r ∈ l, r.text.size ≤ 4611686018427387904 ∧ r.ruby.size ≤ 4611686018427387904) (hn : n ≤ 4611686018427387904) :
    Calls Tryd.prog 48 #[.agg #[.slice A n c]] w fun e w' => e = .returned (.int .i64 (rowErr l)) ∧ Ext w w' := by
  have HL := Lib.hid hl
  have HLn := Lib.hid hl.len
  have HEn := Lib.hid hE
  have HBd := Lib.hid hb
  clear hl hE hb
  by_cases h16 : 16 < n
  · have HF : Hid (rowErr l = 9) := by show rowErr l = 9; unfold rowErr; rw [if_pos (by rw [HLn.out]; exact h16)]
    have h16' : (16 : Int) < (n : Int) := by omega
    go_enter Tryd.func48, Tryd.ntmps48
    go_wp2_with fail
    go_ret
    exact ⟨ret_int HF.out.symm, (Ext.refl w).alloc _⟩
  · have HF : Hid (rowErr l = runsErr none l) := by show rowErr l = _; unfold rowErr; rw [if_neg (by rw [HLn.out]; exact h16)]
    have h16' : (n : Int) ≤ 16 := by omega
    clear h16
    go_enter Tryd.func48, Tryd.ntmps48
    go_wp2_with fail
    go_loopw [12] (fun i wr => CheckRel w #[.slice A n c] n l i wr) (fun i _ => n - (intOf i).toNat)
    case atStart => exact ⟨0, Nat.zero_le _, rfl, Ext.refl _, rfl⟩
    case round =>
      obtain ⟨k, hk, rfl, hx, hp⟩ := hrel
      have HP := Lib.hid hp
      clear hp
      have hxw : Ext w wr := ((Ext.refl w).alloc _).trans hx
      by_cases hlt : k < n
      · have HB0 := Lib.hid (Blk.ext (Blk.new w _ _) hx)
        obtain ⟨b, off, r, rfl, hr, hC⟩ := (HL.out.ext hxw).at_ hlt
        obtain ⟨c0, c1, c2, c3, c4⟩ := hC
        have HD := Lib.hid (drop_at l k r hr)
        have HA := Lib.hid (ahead_succ l k r hr)
        have hbd := HBd.out r (List.mem_of_getElem? hr)
        obtain ⟨hb1, hb2⟩ := hbd
        have HR := Lib.hid hr
        clear hr
        have HPs : Hid (runsErr none l = if runErr (ahead l k) r = 0 then runsErr (ahead l (k + 1)) (l.drop (k + 1)) else runErr (ahead l k) r) := by
          show _ = _
          rw [HP.out, HD.out, HA.out]
          rfl
        clear HP HD HA
        have hblt : w.heap.size < wr.heap.size := HB0.out.lt
        have hbne : w.heap.size ≠ wr.heap.size := by omega
        go_wp2_with fail
        refine (Valid_any r.text _ (HEn.out.ext (hxw.alloc _)) (by omega)).mono ?_
        rintro e w2 ⟨rfl, hx2⟩
        have HB2 := Lib.hid (Blk.ext (Blk.new wr _ _) hx2)
        have hxw2 : Ext w w2 := (hxw.alloc _).trans hx2
        cases hv : vld r.text
        · have HV := Lib.hid hv
          clear hv
          go_wp2_with fail
          go_ret
          refine ⟨ret_int ?_, hxw2⟩
          rw [HF.out, HPs.out, runErr_text HV.out]
          rfl
        · have HV := Lib.hid hv
          clear hv
          have hc2 := fun o => HB2.out.cell o
          cases he : r.text.toList.isEmpty
          · by_cases hcol : r.color ≤ 6
            · go_wp2_with fail
              refine (SValid_any _ _ _ _).mono ?_
              rintro e w3 ⟨rfl, hx3⟩
              have HB3 := Lib.hid (HB2.out.ext hx3)
              clear hc2
              have hc3 := fun o => HB3.out.cell o
              go_wp2_with fail
              refine (Valid_any r.ruby _ (HEn.out.ext (hxw2.trans hx3)) (by omega)).mono ?_
              rintro e w4 ⟨rfl, hx4⟩
              have HB4 := Lib.hid (HB3.out.ext hx4)
              have hxw4 : Ext w w4 := (hxw2.trans hx3).trans hx4
              clear hc3
              cases hvr : vld r.ruby
              · have HVr := Lib.hid hvr
                clear hvr
                go_wp2_with fail
                go_ret
                refine ⟨ret_int ?_, hxw4⟩
                rw [HF.out, HPs.out, runErr_ruby HV.out he hcol HVr.out]
                rfl
              · have HVr := Lib.hid hvr
                clear hvr
                have HE2 := Lib.hid (runErr_last (p := ahead l k) HV.out he hcol HVr.out)
                by_cases hk0 : k = 0
                · subst hk0
                  have HAl : Hid (runErr (ahead l 0) r = 0) := by show _ = _; rw [HE2.out]; rfl
                  have HPt : Hid (runsErr none l = runsErr (ahead l (0 + 1)) (l.drop (0 + 1))) := by show _ = _; rw [HPs.out, if_pos HAl.out]
                  go_wp2_with fail
                  go_quiet (fail)
                  go_wp2_with fail
                  exact ⟨⟨0 + 1, by omega, by go_num, ((hx.alloc _).trans ((hx2.trans hx3).trans hx4)).drewN _, HPt.out⟩, by simp [intOf]; omega⟩
                · obtain ⟨m, rfl⟩ : ∃ m, k = m + 1 := ⟨k - 1, by omega⟩
                  obtain ⟨q, hq⟩ : ∃ q, l[m]? = some q := by
                    have : m < l.length := by rw [HLn.out]; omega
                    exact ⟨_, List.getElem?_eq_getElem this⟩
                  have HAh : Hid (ahead l (m + 1) = some q) := by show _ = _; unfold ahead; rw [if_neg hk0]; exact hq
                  obtain ⟨b', off', q', hA', hq', hC'⟩ := (HL.out.ext hxw4).at_ (i := m) (by omega)
                  cases hA'
                  rw [hq] at hq'
                  cases hq'
                  obtain ⟨d0, d1, d2, d3, d4⟩ := hC'
                  have HQ := Lib.hid hq
                  clear hq hk0
                  have hm0 : (0 : Int) ≤ (m : Int) := by omega
                  have hm1 : (m : Int) < (n : Int) := by omega
                  have hm2 : (0 : Int) < (m : Int) + 1 := by omega
                  have hm3 : m < n := by omega
                  have e1 : IntKind.i64.wrap (m : Int) = (m : Int) := IntWalk.i64_in _ (by omega)
                  have hc4 := fun o => HB4.out.cell o
                  have HB04 := Lib.hid (HB0.out.ext (((Ext.refl wr).alloc _).trans ((hx2.trans hx3).trans hx4)))
                  have hc0 := fun o => HB04.out.cell o
                  have HAL := Lib.hid (fun w => alike_any q r w)
                  unfold Run.val at HAL
                  have z0 : w4.cell? ⟨w.heap.size, 0, none⟩ = some (.slice (some ⟨b, off, none⟩) n c) := hc0 0
                  have z1 : w4.cell? ⟨wr.heap.size, 0, none⟩ = some (.string r.text) := hc4 0
                  have z2 : w4.cell? ⟨wr.heap.size, 1, none⟩ = some (.int .u8 r.color) := hc4 1
                  have z3 : w4.cell? ⟨wr.heap.size, 2, none⟩ = some (.bool r.italic) := hc4 2
                  have z4 : w4.cell? ⟨wr.heap.size, 3, none⟩ = some (.bool r.under) := hc4 3
                  have z5 : w4.cell? ⟨wr.heap.size, 4, none⟩ = some (.string r.ruby) := hc4 4
                  clear hc0 hc4 c0 c1 c2 c3 c4
                  go_wp2_with fail
                  go_region_held3 (fun w' => w'.cell? ⟨w.heap.size, 0, none⟩ = some (.slice (some ⟨b, off, none⟩) n c) ∧ w'.cell? ⟨wr.heap.size, 0, none⟩ = some (.string r.text) ∧ w'.cell? ⟨wr.heap.size, 1, none⟩ = some (.int .u8 r.color) ∧ w'.cell? ⟨wr.heap.size, 2, none⟩ = some (.bool r.italic) ∧ w'.cell? ⟨wr.heap.size, 3, none⟩ = some (.bool r.under) ∧ w'.cell? ⟨wr.heap.size, 4, none⟩ = some (.string r.ruby) ∧
                      w'.cell? ⟨b, off + m * 5, none⟩ = some (.string q.text) ∧ w'.cell? ⟨b, off + m * 5 + 1, none⟩ = some (.int .u8 q.color) ∧ w'.cell? ⟨b, off + m * 5 + 2, none⟩ = some (.bool q.italic) ∧ w'.cell? ⟨b, off + m * 5 + 3, none⟩ = some (.bool q.under) ∧ w'.cell? ⟨b, off + m * 5 + 4, none⟩ = some (.string q.ruby))
                    (first | go_keep | (go_split_ands; refine ⟨?_, ?_, ?_, ?_, ?_, ?_, ?_, ?_, ?_, ?_, ?_⟩ <;> (apply hx5.cell; assumption)))
                    (first | (go_at_call 58; refine (HAL.out _).mono ?_; rintro e w5 ⟨rfl, hx5⟩))
                  have hxa : Ext (w.alloc (.cells #[.slice (some ⟨b, off, none⟩) n c] 43)) w5 := ((((hx.alloc _).trans ((hx2.trans hx3).trans hx4)).drew)).trans hx5
                  have hxw5 : Ext w w5 := ((Ext.refl w).alloc _).trans hxa
                  clear e1
                  cases hal : alikeB q r
                  · have HAl : Hid (runErr (ahead l (m + 1)) r = 0) := by show _ = _; rw [HE2.out, HAh.out, Option.any_some, hal]; rfl
                    have HPt : Hid (runsErr none l = runsErr (ahead l (m + 1 + 1)) (l.drop (m + 1 + 1))) := by show _ = _; rw [HPs.out, if_pos HAl.out]
                    clear hal
                    go_wp2_with fail
                    exact ⟨⟨m + 1 + 1, by omega, by go_num, hxa, HPt.out⟩, by simp [intOf]; omega⟩
                  · have HAl : Hid (runErr (ahead l (m + 1)) r = 8) := by show _ = _; rw [HE2.out, HAh.out, Option.any_some, hal]; rfl
                    clear hal
                    go_wp2_with fail
                    go_ret
                    exact ⟨ret_int (by rw [HF.out, HPs.out, HAl.out]; rfl), hxw5⟩
            · have HC := Lib.hid hcol
              have hd : decide (r.color ≤ 6) = false := decide_eq_false hcol
              clear hcol
              go_wp2_with fail
              refine (SValid_any _ _ _ _).mono ?_
              rintro e w3 ⟨rfl, hx3⟩
              go_wp2_with fail
              go_ret
              refine ⟨ret_int ?_, hxw2.trans hx3⟩
              rw [HF.out, HPs.out, runErr_color HV.out he (by have := HC.out; omega)]
              rfl
          · go_wp2_with fail
            go_ret
            refine ⟨ret_int ?_, hxw2⟩
            rw [HF.out, HPs.out, runErr_empty HV.out he]
            rfl
      · have HD : Hid (l.drop k = []) := List.drop_eq_nil_of_le (by rw [HLn.out]; omega)
        go_wp2_with fail
        go_ret
        exact ⟨ret_int (by rw [HF.out, HP.out, HD.out]; rfl), hxw⟩
end Go.Proofs.YtcgflkmkdpgchaaDoor
