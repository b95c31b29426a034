/- The walk of event.Check. -/
import Derived.Test.YtcgflkmkdpgchaaDoorEventC
namespace Go.Proofs.YtcgflkmkdpgchaaDoor
set_option linter.unusedVariables false
set_option linter.unusedSimpArgs false
open Go.RowKit

def rowsErr : List Row → Int
  | [] => 0
  | r :: l => if rowErrE r = 0 then rowsErr l else rowErrE r
/-- the first error of an event in a document with these regions -/
def Ev.err (e : Ev) (regs : List Reg) : Int :=
  if e.id < 1 ∨ 1099511627776 < e.id ∨ spansB e.inn e.out = false then 2
  else match findR regs e.region with
  | none => 6
  | some r =>
    if noKind e.kind = true then 3
    else if e.speaker.toList.isEmpty = false ∧ nameB e.speaker = false then 5
    else if e.rows.length = 0 ∨ 4 < e.rows.length then 9
    else if rowsErr e.rows ≠ 0 then rowsErr e.rows
    else r.place (e.rows.map rowLen)

def ChkRel (w : World) (n : Nat) (rows : List Row) (i : Value) (wr : World) : Prop := ∃ k : Nat, k ≤ n ∧ i = .int .i64 k ∧ Ext w wr ∧ rowsErr rows = rowsErr (rows.drop k)

set_option maxRecDepth 100000 in
set_option maxHeartbeats 8000000 in
theorem ECheck_any (e : Ev) (A : Option Addr) (n c : Nat) (A2 : Option Addr) (n2 c2 : Nat) (regs : List Reg) (w : World) (hE : Env w) (he : EvAt w e A n c) (hb : EvSmall e) (hr : RegsAt w A2 n2 regs) (hr2 : n2 ≤ 9223372036854775807) (hrs : RegsSmall regs) :
    Calls Tryd.prog 19 #[.agg (e.cells A n c), .slice A2 n2 c2] w fun en w' => en = .returned (.int .i64 (e.err regs)) ∧ Ext w w' := by
  have hn24 : n * 24 ≤ 140737488355328 := by have := he.2; omega
  have HL := Lib.hid (fun w hE he => lens_any e A n c w hE he hb.2.2)
  have HA := Lib.hid he
  have HLn := Lib.hid he.len
  have HEn := Lib.hid hE
  have HR := Lib.hid hr
  have HSm := Lib.hid hb.2.2
  have hspk := hb.2.1
  have hsm := findR_small (nm := e.region) hrs
  clear he hE hr hb
  unfold Ev.cells at HL ⊢
  have HPl := Lib.hid (fun A n c lens w hl hn => Place_any ((findR regs e.region).getD Reg.zero) A n c lens w hsm hl hn)
  go_enter Tryd.func19, Tryd.ntmps19
  go_wp2_with fail
  refine (Find_any A2 n2 c2 regs e.region _ (HR.out.ext ((Ext.refl w).alloc _)) hr2).mono ?_
  rintro en w1 ⟨rfl, hx1⟩
  have HB1 := Lib.hid (Blk.ext (Blk.new w _ _) hx1)
  have hxw1 : Ext w w1 := ((Ext.refl w).alloc _).trans hx1
  have hblt : w.heap.size < w1.heap.size := HB1.out.lt
  have hbne : w.heap.size ≠ w1.heap.size := by omega
  have hc1 := fun o => HB1.out.cell o
  generalize hfr : (findR regs e.region).getD Reg.zero = r at *
  have HFr := Lib.hid hfr
  clear hfr hsm
  unfold Reg.val at HPl ⊢
  by_cases h1 : e.id < 1
  · go_wp2_with fail
    go_ret
    exact ⟨ret_int (by unfold Ev.err; rw [if_pos (by omega)]), hxw1.alloc _⟩
  · by_cases h2 : 1099511627776 < e.id
    · go_wp2_with fail
      go_ret
      exact ⟨ret_int (by unfold Ev.err; rw [if_pos (by omega)]), hxw1.alloc _⟩
    · go_wp2_with fail
      refine (spans_any _ _ _).mono ?_
      rintro en w2 ⟨rfl, hx2⟩
      have hxw2 : Ext w w2 := (hxw1.alloc _).trans hx2
      have HBa := Lib.hid ((HB1.out.alloc (.cells #[.string r.name, .int .i64 r.top, .int .i64 r.height, .int .i64 r.left, .int .i64 r.width, .int .u8 r.align, .bool r.bottom] 68)).ext hx2)
      have HBr := Lib.hid (Blk.ext (Blk.new w1 _ _) hx2)
      clear hc1
      have hca := fun o => HBa.out.cell o
      cases hs : spansB e.inn e.out
      · have HSp := Lib.hid hs
        clear hs
        go_wp2_with fail
        go_ret
        exact ⟨ret_int (by unfold Ev.err; rw [if_pos (.inr (.inr HSp.out))]), hxw2⟩
      · have HSp := Lib.hid hs
        clear hs
        have HE1 : Hid (¬ (e.id < 1 ∨ 1099511627776 < e.id ∨ spansB e.inn e.out = false)) := by
          show ¬ _
          rw [HSp.out]
          simp
          omega
        cases hf : findR regs e.region with
        | none =>
          have HF : Hid (e.err regs = 6) := by show _ = _; unfold Ev.err; rw [if_neg HE1.out, hf]
          clear hf
          simp only [Option.isSome_none]
          go_wp2_with fail
          go_ret
          exact ⟨ret_int HF.out.symm, hxw2⟩
        | some r' =>
          obtain rfl : r' = r := by have := HFr.out; rw [hf] at this; exact this
          have HF : Hid (e.err regs = if noKind e.kind = true then 3 else if e.speaker.toList.isEmpty = false ∧ nameB e.speaker = false then 5 else if e.rows.length = 0 ∨ 4 < e.rows.length then 9 else if rowsErr e.rows ≠ 0 then rowsErr e.rows else r'.place (e.rows.map rowLen)) := by
            show _ = _; unfold Ev.err; rw [if_neg HE1.out, hf]
          clear hf HE1
          simp only [Option.isSome_some]
          go_wp2_with fail
          refine (KindName_any _ _).mono ?_
          rintro en w3 ⟨s, rfl, hke, hx3⟩
          have hxw3 : Ext w w3 := hxw2.trans hx3
          have HBa3 := Lib.hid (HBa.out.ext hx3)
          have HBr3 := Lib.hid (HBr.out.ext hx3)
          clear hca
          have hca := fun o => HBa3.out.cell o
          cases hnk : noKind e.kind
          · rw [hnk] at hke
            have HNk := Lib.hid hnk
            clear hnk
            cases hse : e.speaker.toList.isEmpty
            · go_wp2_with fail
              refine (Name_any _ _ hspk).mono ?_
              rintro en w4 ⟨rfl, rfl⟩
              cases hnm : nameB e.speaker
              · have HNm := Lib.hid hnm
                clear hnm
                go_wp2_with fail
                go_ret
                exact ⟨ret_int (by rw [HF.out, if_neg (by rw [HNk.out]; simp), if_pos ⟨hse, HNm.out⟩]), hxw3⟩
              · have HF2 : Hid (e.err regs = if e.rows.length = 0 ∨ 4 < e.rows.length then 9 else if rowsErr e.rows ≠ 0 then rowsErr e.rows else r'.place (e.rows.map rowLen)) := by
                  show _ = _; rw [HF.out, if_neg (by rw [HNk.out]; simp), if_neg (by rw [hnm]; simp)]
                clear hnm
                by_cases h5 : n = 0
                · subst h5
                  go_wp2_with fail
                  go_ret
                  exact ⟨ret_int (by rw [HF2.out, if_pos (.inl HLn.out)]), hxw3⟩
                · have h5' : ((n : Int) == 0) = false := by simp; omega
                  by_cases h6 : 4 < n
                  · have h6' : (4 : Int) < (n : Int) := by omega
                    clear h5
                    go_wp2_with fail
                    go_ret
                    exact ⟨ret_int (by rw [HF2.out, if_pos (.inr (by rw [HLn.out]; exact h6))]), hxw3⟩
                  · have h6' : (n : Int) ≤ 4 := by omega
                    have HF3 : Hid (e.err regs = if rowsErr e.rows ≠ 0 then rowsErr e.rows else r'.place (e.rows.map rowLen)) := by show _ = _; rw [HF2.out, if_neg (by rw [HLn.out]; omega)]
                    clear HF2 h5 h6
                    go_wp2_with fail
                    clear hca
                    go_loopw [66] (fun i wr => ChkRel w3 n e.rows i wr) (fun i _ => n - (intOf i).toNat)
                    case atStart => exact ⟨0, Nat.zero_le _, rfl, Ext.refl _, rfl⟩
                    case round =>
                      obtain ⟨k, hk, rfl, hx, hp⟩ := hrel
                      have HP := Lib.hid hp
                      clear hp
                      have hxw : Ext w wr := hxw3.trans hx
                      by_cases hlt : k < n
                      · obtain ⟨b, off, rw_, rfl, hrw, A', n', c', hcell, hnc, hc40, hruns⟩ := (HA.out.ext hxw).1.at_ hlt
                        simp only [Nat.mul_one] at hcell
                        have HRu := Lib.hid hruns
                        have HD := Lib.hid (drop_at e.rows k rw_ hrw)
                        have hsmr := HSm.out rw_ (List.mem_of_getElem? hrw)
                        have HSr := Lib.hid hsmr
                        clear hrw hruns hsmr
                        go_wp2_with fail
                        refine (row_any A' n' c' rw_ _ (HEn.out.ext (hxw.alloc _)) (HRu.out.ext ((Ext.refl wr).alloc _)) HSr.out.2 (by omega) HSr.out.1).mono ?_
                        rintro en w4 ⟨rfl, hx4⟩
                        by_cases hre : rowErrE rw_ = 0
                        · have hre' : (rowErrE rw_ != 0) = false := by simp [hre]
                          have HP2 : Hid (rowsErr e.rows = rowsErr (e.rows.drop (k + 1))) := by show _ = _; rw [HP.out, HD.out, rowsErr, if_pos hre]
                          clear hre
                          go_wp2_with fail
                          exact ⟨⟨k + 1, by omega, by go_num, (hx.alloc _).trans hx4, HP2.out⟩, by simp [intOf]; omega⟩
                        · have hre' : (rowErrE rw_ != 0) = true := by simp [hre]
                          have HP2 : Hid (rowsErr e.rows = rowErrE rw_) := by show _ = _; rw [HP.out, HD.out, rowsErr, if_neg hre]
                          have HNe := Lib.hid hre
                          clear hre
                          go_wp2_with fail
                          go_ret
                          exact ⟨ret_int (by rw [HF3.out, HP2.out, if_pos HNe.out]), (hxw.alloc _).trans hx4⟩
                      · have HD : Hid (e.rows.drop k = []) := List.drop_eq_nil_of_le (by rw [HLn.out]; omega)
                        have HF4 : Hid (e.err regs = r'.place (e.rows.map rowLen)) := by show _ = _; rw [HF3.out, HP.out, HD.out, if_neg (by simp [rowsErr])]
                        have y0 := (HBa3.out.ext hx).cell
                        have y1 := (HBr3.out.ext hx).cell
                        have y00 := y0 0
                        have y01 := y0 1
                        have y02 := y0 2
                        have y03 := y0 3
                        have y04 := y0 4
                        have y05 := y0 5
                        have y06 := y0 6
                        have y10 := y1 0
                        have y11 := y1 1
                        have y12 := y1 2
                        have y13 := y1 3
                        have y14 := y1 4
                        have y15 := y1 5
                        have y16 := y1 6
                        simp at y00 y01 y02 y03 y04 y05 y06 y10 y11 y12 y13 y14 y15 y16
                        clear y0 y1
                        go_wp2_with fail
                        go_region_held3 (fun w' => w'.cell? ⟨w.heap.size, 0, none⟩ = some (.int .i64 e.id) ∧ w'.cell? ⟨w.heap.size, 1, none⟩ = some (.int .i64 e.inn) ∧ w'.cell? ⟨w.heap.size, 2, none⟩ = some (.int .i64 e.out) ∧ w'.cell? ⟨w.heap.size, 3, none⟩ = some (.string e.region) ∧ w'.cell? ⟨w.heap.size, 4, none⟩ = some (.int .u8 e.kind) ∧ w'.cell? ⟨w.heap.size, 5, none⟩ = some (.string e.speaker) ∧ w'.cell? ⟨w.heap.size, 6, none⟩ = some (.slice A n c) ∧
                            w'.cell? ⟨w1.heap.size, 0, none⟩ = some (.string r'.name) ∧ w'.cell? ⟨w1.heap.size, 1, none⟩ = some (.int .i64 r'.top) ∧ w'.cell? ⟨w1.heap.size, 2, none⟩ = some (.int .i64 r'.height) ∧ w'.cell? ⟨w1.heap.size, 3, none⟩ = some (.int .i64 r'.left) ∧ w'.cell? ⟨w1.heap.size, 4, none⟩ = some (.int .i64 r'.width) ∧ w'.cell? ⟨w1.heap.size, 5, none⟩ = some (.int .u8 r'.align) ∧ w'.cell? ⟨w1.heap.size, 6, none⟩ = some (.bool r'.bottom))
                          (first | go_keep | (go_split_ands; refine ⟨?_, ?_, ?_, ?_, ?_, ?_, ?_, ?_, ?_, ?_, ?_, ?_, ?_, ?_⟩ <;> (apply hx6.cell; assumption)) | (go_split_ands; refine ⟨?_, ?_, ?_, ?_, ?_, ?_, ?_, ?_, ?_, ?_, ?_, ?_, ?_, ?_⟩ <;> (apply hx5.cell; assumption)))
                          (first | (go_at_call 37; refine (HL.out _ (HEn.out.ext (by exact hxw.drew)) (HA.out.ext (by exact hxw.drew))).mono ?_; rintro en w5 ⟨A1, n1, c1, rfl, hints, hnc1, hx5⟩) | (go_at_call 36; refine (HPl.out _ _ _ _ _ hints (by have := hints.len; rw [List.length_map, HLn.out] at this; omega)).mono ?_; rintro en w6 ⟨A3, n3, c3, rfl, hsp, hnc3, hx6⟩))
                        go_wp2_with fail
                        go_ret
                        exact ⟨ret_int HF4.out.symm, (hxw.drew.trans hx5).trans hx6⟩
            · have HF2 : Hid (e.err regs = if e.rows.length = 0 ∨ 4 < e.rows.length then 9 else if rowsErr e.rows ≠ 0 then rowsErr e.rows else r'.place (e.rows.map rowLen)) := by
                show _ = _; rw [HF.out, if_neg (by rw [HNk.out]; simp), if_neg (by rw [hse]; simp)]
              by_cases h5 : n = 0
              · subst h5
                go_wp2_with fail
                go_ret
                exact ⟨ret_int (by rw [HF2.out, if_pos (.inl HLn.out)]), hxw3⟩
              · have h5' : ((n : Int) == 0) = false := by simp; omega
                by_cases h6 : 4 < n
                · have h6' : (4 : Int) < (n : Int) := by omega
                  clear h5
                  go_wp2_with fail
                  go_ret
                  exact ⟨ret_int (by rw [HF2.out, if_pos (.inr (by rw [HLn.out]; exact h6))]), hxw3⟩
                · have h6' : (n : Int) ≤ 4 := by omega
                  have HF3 : Hid (e.err regs = if rowsErr e.rows ≠ 0 then rowsErr e.rows else r'.place (e.rows.map rowLen)) := by show _ = _; rw [HF2.out, if_neg (by rw [HLn.out]; omega)]
                  clear HF2 h5 h6
                  go_wp2_with fail
                  clear hca
                  go_loopw [66] (fun i wr => ChkRel w3 n e.rows i wr) (fun i _ => n - (intOf i).toNat)
                  case atStart => exact ⟨0, Nat.zero_le _, rfl, Ext.refl _, rfl⟩
                  case round =>
                    obtain ⟨k, hk, rfl, hx, hp⟩ := hrel
                    have HP := Lib.hid hp
                    clear hp
                    have hxw : Ext w wr := hxw3.trans hx
                    by_cases hlt : k < n
                    · obtain ⟨b, off, rw_, rfl, hrw, A', n', c', hcell, hnc, hc40, hruns⟩ := (HA.out.ext hxw).1.at_ hlt
                      simp only [Nat.mul_one] at hcell
                      have HRu := Lib.hid hruns
                      have HD := Lib.hid (drop_at e.rows k rw_ hrw)
                      have hsmr := HSm.out rw_ (List.mem_of_getElem? hrw)
                      have HSr := Lib.hid hsmr
                      clear hrw hruns hsmr
                      go_wp2_with fail
                      refine (row_any A' n' c' rw_ _ (HEn.out.ext (hxw.alloc _)) (HRu.out.ext ((Ext.refl wr).alloc _)) HSr.out.2 (by omega) HSr.out.1).mono ?_
                      rintro en w4 ⟨rfl, hx4⟩
                      by_cases hre : rowErrE rw_ = 0
                      · have hre' : (rowErrE rw_ != 0) = false := by simp [hre]
                        have HP2 : Hid (rowsErr e.rows = rowsErr (e.rows.drop (k + 1))) := by show _ = _; rw [HP.out, HD.out, rowsErr, if_pos hre]
                        clear hre
                        go_wp2_with fail
                        exact ⟨⟨k + 1, by omega, by go_num, (hx.alloc _).trans hx4, HP2.out⟩, by simp [intOf]; omega⟩
                      · have hre' : (rowErrE rw_ != 0) = true := by simp [hre]
                        have HP2 : Hid (rowsErr e.rows = rowErrE rw_) := by show _ = _; rw [HP.out, HD.out, rowsErr, if_neg hre]
                        have HNe := Lib.hid hre
                        clear hre
                        go_wp2_with fail
                        go_ret
                        exact ⟨ret_int (by rw [HF3.out, HP2.out, if_pos HNe.out]), (hxw.alloc _).trans hx4⟩
                    · have HD : Hid (e.rows.drop k = []) := List.drop_eq_nil_of_le (by rw [HLn.out]; omega)
                      have HF4 : Hid (e.err regs = r'.place (e.rows.map rowLen)) := by show _ = _; rw [HF3.out, HP.out, HD.out, if_neg (by simp [rowsErr])]
                      have y0 := (HBa3.out.ext hx).cell
                      have y1 := (HBr3.out.ext hx).cell
                      have y00 := y0 0
                      have y01 := y0 1
                      have y02 := y0 2
                      have y03 := y0 3
                      have y04 := y0 4
                      have y05 := y0 5
                      have y06 := y0 6
                      have y10 := y1 0
                      have y11 := y1 1
                      have y12 := y1 2
                      have y13 := y1 3
                      have y14 := y1 4
                      have y15 := y1 5
                      have y16 := y1 6
                      simp at y00 y01 y02 y03 y04 y05 y06 y10 y11 y12 y13 y14 y15 y16
                      clear y0 y1
                      go_wp2_with fail
                      go_region_held3 (fun w' => w'.cell? ⟨w.heap.size, 0, none⟩ = some (.int .i64 e.id) ∧ w'.cell? ⟨w.heap.size, 1, none⟩ = some (.int .i64 e.inn) ∧ w'.cell? ⟨w.heap.size, 2, none⟩ = some (.int .i64 e.out) ∧ w'.cell? ⟨w.heap.size, 3, none⟩ = some (.string e.region) ∧ w'.cell? ⟨w.heap.size, 4, none⟩ = some (.int .u8 e.kind) ∧ w'.cell? ⟨w.heap.size, 5, none⟩ = some (.string e.speaker) ∧ w'.cell? ⟨w.heap.size, 6, none⟩ = some (.slice A n c) ∧
                          w'.cell? ⟨w1.heap.size, 0, none⟩ = some (.string r'.name) ∧ w'.cell? ⟨w1.heap.size, 1, none⟩ = some (.int .i64 r'.top) ∧ w'.cell? ⟨w1.heap.size, 2, none⟩ = some (.int .i64 r'.height) ∧ w'.cell? ⟨w1.heap.size, 3, none⟩ = some (.int .i64 r'.left) ∧ w'.cell? ⟨w1.heap.size, 4, none⟩ = some (.int .i64 r'.width) ∧ w'.cell? ⟨w1.heap.size, 5, none⟩ = some (.int .u8 r'.align) ∧ w'.cell? ⟨w1.heap.size, 6, none⟩ = some (.bool r'.bottom))
                        (first | go_keep | (go_split_ands; refine ⟨?_, ?_, ?_, ?_, ?_, ?_, ?_, ?_, ?_, ?_, ?_, ?_, ?_, ?_⟩ <;> (apply hx6.cell; assumption)) | (go_split_ands; refine ⟨?_, ?_, ?_, ?_, ?_, ?_, ?_, ?_, ?_, ?_, ?_, ?_, ?_, ?_⟩ <;> (apply hx5.cell; assumption)))
                        (first | (go_at_call 37; refine (HL.out _ (HEn.out.ext (by exact hxw.drew)) (HA.out.ext (by exact hxw.drew))).mono ?_; rintro en w5 ⟨A1, n1, c1, rfl, hints, hnc1, hx5⟩) | (go_at_call 36; refine (HPl.out _ _ _ _ _ hints (by have := hints.len; rw [List.length_map, HLn.out] at this; omega)).mono ?_; rintro en w6 ⟨A3, n3, c3, rfl, hsp, hnc3, hx6⟩))
                      go_wp2_with fail
                      go_ret
                      exact ⟨ret_int HF4.out.symm, (hxw.drew.trans hx5).trans hx6⟩
          · rw [hnk] at hke
            have HNk := Lib.hid hnk
            clear hnk
            go_wp2_with fail
            go_ret
            exact ⟨ret_int (by rw [HF.out, if_pos HNk.out]), hxw3⟩
end Go.Proofs.YtcgflkmkdpgchaaDoor
