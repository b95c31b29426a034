/- Laid together: The walks of the references' rates: Valid, CanDrop, Nominal, Dropped, Day. The walk of the reference's checkHead. The walk of the reference's Len of an event. The walk of the reference's checkComment. -/
import Derived.Test.YtajbhfmdmajpmaaGreatDoorPk04
import Derived.Test.YtajbhfmdmajpmaaGreatDoorPk12
import Derived.Test.YtajbhfmdmajpmaaGreatDoorPk10
import Derived.Test.YtajbhfmdmajpmaaGreatDoorPk08
import Derived.Test.YtajbhfmdmajpmaaGreatDoorPk09
import Derived.Test.YtajbhfmdmajpmaaGreatDoorPk03
import Derived.Test.YtajbhfmdmajpmaaGreatDoorPk13

/-! RateR -/
namespace Go.Proofs.YtajbhfmdmajpmaaGreatDoor
set_option linter.unusedVariables false
set_option linter.unusedSimpArgs false
open Go.RowKit
theorem R2Valid_any (r : Int) (w : World) : Calls Tryz.prog 102 #[.int .u8 r] w fun e w' => e = .returned (.bool (rOk r)) ∧ w = w' := by
  by_cases h1 : 1 ≤ r
  · by_cases h7 : r ≤ 7
    · go_enter Tryz.func102, Tryz.ntmps102
      go_wp2
      go_ret
      exact ⟨ret_bool (by unfold rOk; rw [decide_eq_true ⟨h1, h7⟩]), rfl⟩
    · go_enter Tryz.func102, Tryz.ntmps102
      go_wp2
      go_ret
      exact ⟨ret_bool (by unfold rOk; rw [decide_eq_false (by omega)]), rfl⟩
  · go_enter Tryz.func102, Tryz.ntmps102
    go_wp2
    go_ret
    exact ⟨ret_bool (by unfold rOk; rw [decide_eq_false (by omega)]), rfl⟩
theorem R2CanDrop_any (r : Int) (w : World) : Calls Tryz.prog 103 #[.int .u8 r] w fun e w' => e = .returned (.bool (rDrop r)) ∧ w = w' := by
  by_cases h1 : r = 4
  · subst h1
    go_enter Tryz.func103, Tryz.ntmps103
    go_wp2
    go_ret
    exact ⟨rfl, rfl⟩
  · by_cases h7 : r = 7
    · subst h7
      go_enter Tryz.func103, Tryz.ntmps103
      go_wp2
      go_ret
      exact ⟨rfl, rfl⟩
    · have e4 : (r == 4) = false := by simpa using h1
      have e7 : (r == 7) = false := by simpa using h7
      go_enter Tryz.func103, Tryz.ntmps103
      go_wp2
      go_ret
      exact ⟨ret_bool (by unfold rDrop; rw [decide_eq_false (by omega)]), rfl⟩
end Go.Proofs.YtajbhfmdmajpmaaGreatDoor

/-! HeadR -/
namespace Go.Proofs.YtajbhfmdmajpmaaGreatDoor
set_option linter.unusedVariables false
set_option linter.unusedSimpArgs false
open Go.RowKit
set_option maxRecDepth 100000 in
set_option maxHeartbeats 4000000 in
theorem R12head_any (d : Doc) (h : DocH) (w : World) (hok : DocOk d) : Calls Tryz.prog 62 #[.agg (d.cells h)] w fun e w' => e = .returned (.int .i64 d.headErr) ∧ Ext w w' := by
  have HX := Lib.hid ((Ext.refl w).alloc (.cells (d.cells h) 27))
  have HB := Lib.hid (Blk.new w 27 (d.cells h))
  have HV := Lib.hid (fun w' => RValid_any d.title w' hok.title)
  have HN := Lib.hid (fun w' => RName_any d.lang w' hok.lang)
  have H1 := Lib.hid (@head_char d)
  have H2 := Lib.hid (@head_title d)
  have H3 := Lib.hid (@head_lang d)
  have H4 := Lib.hid (@head_rate d)
  have H5 := Lib.hid (@head_last d)
  have H6 := Lib.hid (@head_ok d)
  clear hok
  unfold Doc.cells at *
  go_enter Tryz.func62, Tryz.ntmps62
  have hc0 := fun o => HB.out.cell o
  go_wp2_with fail
  refine (HV.out _).mono ?_
  rintro en w1 ⟨rfl, hx1⟩
  have HX1 := Lib.hid (HX.out.trans hx1)
  have HB1 := Lib.hid (HB.out.ext hx1)
  clear hx1 HX HB hc0
  have hc := fun o => HB1.out.cell o
  cases hv : vld d.title
  · have HA := Lib.hid hv
    clear hv
    go_wp2_with fail
    go_ret
    exact ⟨ret_int (H1.out HA.out).symm, HX1.out⟩
  have HA := Lib.hid hv
  clear hv
  by_cases h4 : 400 < d.title.size
  · have h4i : (400 : Int) < (d.title.size : Int) := by omega
    go_wp2_with fail
    go_ret
    exact ⟨ret_int (H2.out HA.out h4).symm, HX1.out⟩
  have h4i : ¬ (400 : Int) < (d.title.size : Int) := by omega
  have HT := Lib.hid h4
  clear h4
  cases hl : d.lang.toList.isEmpty
  · have HLg := Lib.hid hl
    go_wp2_with fail
    refine (HN.out _).mono ?_
    rintro en w2 ⟨rfl, hx2⟩
    have HX2 := Lib.hid (HX1.out.trans hx2)
    have HB2 := Lib.hid (HB1.out.ext hx2)
    clear hx2 hc HX1 HB1
    have hc := fun o => HB2.out.cell o
    have HX1 := HX2
    clear HX2
    cases hn : nameB d.lang
    · have HNm := Lib.hid hn
      clear hn
      go_wp2_with fail
      go_ret
      exact ⟨ret_int (H3.out HA.out HT.out ⟨HLg.out, HNm.out⟩).symm, HX1.out⟩
    have HNm : Hid (¬ (d.lang.toList.isEmpty = false ∧ nameB d.lang = false)) := by show ¬ _; rw [hn]; simp
    clear hn
    go_wp2_with fail
    refine (R2Valid_any d.rate _).mono ?_
    rintro en w3 ⟨rfl, rfl⟩
    cases hr1 : rOk d.rate
    · have HRt : Hid (rateOkB d.rate d.drop = false) := by show _ = _; unfold rateOkB; rw [hr1]; rfl
      clear hr1
      go_wp2_with fail
      go_ret
      exact ⟨ret_int (H4.out HA.out HT.out HNm.out HRt.out).symm, HX1.out⟩
    cases hdr : d.drop
    · have HRt : Hid (rateOkB d.rate d.drop = true) := by show _ = _; unfold rateOkB; rw [hr1, hdr]; rfl
      clear hr1
      by_cases hl1 : d.last < 0 ∨ 1099511627776 < d.last
      · have HLt := Lib.hid hl1
        by_cases hl2 : d.last < 0
        · clear hl1
          go_wp2_with fail
          go_ret
          exact ⟨ret_int (H5.out HA.out HT.out HNm.out HRt.out HLt.out).symm, HX1.out⟩
        · have hl3 : 1099511627776 < d.last := by omega
          clear hl1
          go_wp2_with fail
          go_ret
          exact ⟨ret_int (H5.out HA.out HT.out HNm.out HRt.out HLt.out).symm, HX1.out⟩
      have HLt := Lib.hid hl1
      have hl2 : ¬ d.last < 0 := by omega
      have hl3 : ¬ 1099511627776 < d.last := by omega
      clear hl1
      go_wp2_with fail
      go_ret
      exact ⟨ret_int (H6.out HA.out HT.out HNm.out HRt.out HLt.out).symm, HX1.out⟩
    go_wp2_with fail
    refine (R2CanDrop_any d.rate _).mono ?_
    rintro en w4 ⟨rfl, rfl⟩
    cases hr2 : rDrop d.rate
    · have HRt : Hid (rateOkB d.rate d.drop = false) := by show _ = _; unfold rateOkB; rw [hr1, hdr, hr2]; rfl
      clear hr1 hr2
      go_wp2_with fail
      go_ret
      exact ⟨ret_int (H4.out HA.out HT.out HNm.out HRt.out).symm, HX1.out⟩
    have HRt : Hid (rateOkB d.rate d.drop = true) := by show _ = _; unfold rateOkB; rw [hr1, hdr, hr2]; rfl
    clear hr1 hr2
    by_cases hl1 : d.last < 0 ∨ 1099511627776 < d.last
    · have HLt := Lib.hid hl1
      by_cases hl2 : d.last < 0
      · clear hl1
        go_wp2_with fail
        go_ret
        exact ⟨ret_int (H5.out HA.out HT.out HNm.out HRt.out HLt.out).symm, HX1.out⟩
      · have hl3 : 1099511627776 < d.last := by omega
        clear hl1
        go_wp2_with fail
        go_ret
        exact ⟨ret_int (H5.out HA.out HT.out HNm.out HRt.out HLt.out).symm, HX1.out⟩
    have HLt := Lib.hid hl1
    have hl2 : ¬ d.last < 0 := by omega
    have hl3 : ¬ 1099511627776 < d.last := by omega
    clear hl1
    go_wp2_with fail
    go_ret
    exact ⟨ret_int (H6.out HA.out HT.out HNm.out HRt.out HLt.out).symm, HX1.out⟩
  · have HNm : Hid (¬ (d.lang.toList.isEmpty = false ∧ nameB d.lang = false)) := by show ¬ _; rw [hl]; simp
    go_wp2_with fail
    refine (R2Valid_any d.rate _).mono ?_
    rintro en w3 ⟨rfl, rfl⟩
    cases hr1 : rOk d.rate
    · have HRt : Hid (rateOkB d.rate d.drop = false) := by show _ = _; unfold rateOkB; rw [hr1]; rfl
      clear hr1
      go_wp2_with fail
      go_ret
      exact ⟨ret_int (H4.out HA.out HT.out HNm.out HRt.out).symm, HX1.out⟩
    cases hdr : d.drop
    · have HRt : Hid (rateOkB d.rate d.drop = true) := by show _ = _; unfold rateOkB; rw [hr1, hdr]; rfl
      clear hr1
      by_cases hl1 : d.last < 0 ∨ 1099511627776 < d.last
      · have HLt := Lib.hid hl1
        by_cases hl2 : d.last < 0
        · clear hl1
          go_wp2_with fail
          go_ret
          exact ⟨ret_int (H5.out HA.out HT.out HNm.out HRt.out HLt.out).symm, HX1.out⟩
        · have hl3 : 1099511627776 < d.last := by omega
          clear hl1
          go_wp2_with fail
          go_ret
          exact ⟨ret_int (H5.out HA.out HT.out HNm.out HRt.out HLt.out).symm, HX1.out⟩
      have HLt := Lib.hid hl1
      have hl2 : ¬ d.last < 0 := by omega
      have hl3 : ¬ 1099511627776 < d.last := by omega
      clear hl1
      go_wp2_with fail
      go_ret
      exact ⟨ret_int (H6.out HA.out HT.out HNm.out HRt.out HLt.out).symm, HX1.out⟩
    go_wp2_with fail
    refine (R2CanDrop_any d.rate _).mono ?_
    rintro en w4 ⟨rfl, rfl⟩
    cases hr2 : rDrop d.rate
    · have HRt : Hid (rateOkB d.rate d.drop = false) := by show _ = _; unfold rateOkB; rw [hr1, hdr, hr2]; rfl
      clear hr1 hr2
      go_wp2_with fail
      go_ret
      exact ⟨ret_int (H4.out HA.out HT.out HNm.out HRt.out).symm, HX1.out⟩
    have HRt : Hid (rateOkB d.rate d.drop = true) := by show _ = _; unfold rateOkB; rw [hr1, hdr, hr2]; rfl
    clear hr1 hr2
    by_cases hl1 : d.last < 0 ∨ 1099511627776 < d.last
    · have HLt := Lib.hid hl1
      by_cases hl2 : d.last < 0
      · clear hl1
        go_wp2_with fail
        go_ret
        exact ⟨ret_int (H5.out HA.out HT.out HNm.out HRt.out HLt.out).symm, HX1.out⟩
      · have hl3 : 1099511627776 < d.last := by omega
        clear hl1
        go_wp2_with fail
        go_ret
        exact ⟨ret_int (H5.out HA.out HT.out HNm.out HRt.out HLt.out).symm, HX1.out⟩
    have HLt := Lib.hid hl1
    have hl2 : ¬ d.last < 0 := by omega
    have hl3 : ¬ 1099511627776 < d.last := by omega
    clear hl1
    go_wp2_with fail
    go_ret
    exact ⟨ret_int (H6.out HA.out HT.out HNm.out HRt.out HLt.out).symm, HX1.out⟩
end Go.Proofs.YtajbhfmdmajpmaaGreatDoor

/-! ELenR -/
namespace Go.Proofs.YtajbhfmdmajpmaaGreatDoor
set_option linter.unusedVariables false
set_option linter.unusedSimpArgs false
open Go.RowKit
def RELenRel (w1 : World) (n : Nat) (e : Ev) (v i : Value) (wr : World) : Prop := ∃ (k : Nat) (s : Int), k ≤ n ∧ i = .int .i64 k ∧ v = .int .i64 s ∧ 0 ≤ s ∧ s ≤ k + ((e.rows.take k).map rowBytes).sum ∧ Ext w1 wr ∧
  e.len = lenSum (s + (max ((n : Int) - 1) 0 - max ((k : Int) - 1) 0)) ((e.rows.map rowLen).drop k)
set_option maxRecDepth 100000 in
set_option maxHeartbeats 1000000 in
theorem R11Len_any (e : Ev) (A : Option Addr) (n c : Nat) (w : World) (hE : Env w) (he : EvAt w e A n c) (hby : e.bytes ≤ 1099511627776) (hrn : ∀ r ∈ e.rows, r.length ≤ 4611686018427387904) :
    Calls Tryz.prog 105 #[.agg (e.cells A n c)] w fun en w' => en = .returned (.int .i64 e.len) ∧ Ext w w' := by
  have hn24 : n * 24 ≤ 140737488355328 := by have := he.2; omega
  have HA := Lib.hid he.1
  have HLn := Lib.hid he.len
  have HRn := Lib.hid hrn
  have HEn := Lib.hid hE
  have HX := Lib.hid ((Ext.refl w).alloc (.cells (e.cells A n c) 53))
  clear he hrn hE
  unfold Ev.cells at *
  go_enter Tryz.func105, Tryz.ntmps105
  go_wp2_with fail
  go_loopw [3, 10] (fun v i wr => RELenRel w n e v i wr) (fun _ i _ => n - (intOf i).toNat)
  case atStart => exact ⟨0, 0, Nat.zero_le _, rfl, rfl, by omega, by simp, HX.out, by unfold Ev.len; rw [HLn.out]; simp only [List.drop_zero]; congr 1; omega⟩
  case round =>
    obtain ⟨k, s, hk, rfl, rfl, hs0, hs1, hx, hp⟩ := hrel
    have HP := Lib.hid hp
    clear hp
    by_cases hlt : k < n
    · obtain ⟨b, off, r, rfl, hr, A', n', c', hcell, hnc, hc40, hruns⟩ := (HA.out.ext hx).at_ hlt
      simp only [Nat.mul_one] at hcell
      have HR := Lib.hid hruns
      have HD : Hid ((e.rows.map rowLen).drop k = rowLen r :: (e.rows.map rowLen).drop (k + 1)) := Lib.hid (drop_at _ k _ (by rw [List.getElem?_map, hr]; rfl))
      have h1 := sum_take_le e.rows k r hr
      have h2 := rowLen_le r
      have h3 : ((e.rows.take (k + 1)).map rowBytes).sum = ((e.rows.take k).map rowBytes).sum + rowBytes r := by
        rw [take_snoc' e.rows k r hr, List.map_append, List.sum_append]
        simp
      have H3 := Lib.hid h3
      have hby' : (e.rows.map rowBytes).sum ≤ 1099511627776 := hby
      have hrb : rowBytes r ≤ 1099511627776 := by omega
      have hs2 : s + rowLen r ≤ 4611686018427387904 := by omega
      have hs3 : s ≤ 4611686018427387903 := by omega
      have hs4 : s + 1 + rowLen r ≤ 4611686018427387904 := by omega
      have hnr : n' ≤ 4611686018427387904 := by have h5 := hruns.len; have h6 := HRn.out r (List.mem_of_getElem? hr); omega
      have hge := rowLen_ge r
      have hk1 : s ≤ k + ((e.rows.take k).map rowBytes).sum := hs1
      have HK := Lib.hid hk1
      clear hr hruns h1 h3 hby' hk1 hs1
      go_wp2_with fail
      refine (R9Len_any A' n' c' r _ (HEn.out.ext (hx.alloc _)) (HR.out.ext ((Ext.refl wr).alloc _)) (by omega) hnr).mono ?_
      rintro en w2 ⟨rfl, hx2⟩
      by_cases hneg : rowLen r < 0
      · go_wp2_with fail
        go_ret
        exact ⟨ret_int (by rw [HP.out, HD.out, lenSum, if_pos (by omega)]), (hx.alloc _).trans hx2⟩
      · by_cases hk0 : k = 0
        · subst hk0
          go_wp2_with fail
          refine ⟨⟨0 + 1, s + rowLen r, by omega, by go_num, rfl, by omega, ?_, (hx.alloc _).trans hx2, ?_⟩, by simp [intOf]; omega⟩
          · have := HK.out; have := H3.out; omega
          · rw [HP.out, HD.out, lenSum, if_neg (by omega)]; congr 1; omega
        · have hkp : (0 : Int) < (k : Int) := by omega
          go_wp2_with fail
          refine ⟨⟨k + 1, s + 1 + rowLen r, by omega, by go_num, rfl, by omega, ?_, (hx.alloc _).trans hx2, ?_⟩, by simp [intOf]; omega⟩
          · have := HK.out; have := H3.out; omega
          · rw [HP.out, HD.out, lenSum, if_neg (by omega)]; congr 1; omega
    · have hkn : k = n := by omega
      have HD : Hid ((e.rows.map rowLen).drop k = []) := List.drop_eq_nil_of_le (by rw [List.length_map, HLn.out]; omega)
      subst hkn
      go_wp2_with fail
      go_ret
      exact ⟨ret_int (by rw [HP.out, HD.out, lenSum]; omega), hx⟩
end Go.Proofs.YtajbhfmdmajpmaaGreatDoor

/-! ComR -/
namespace Go.Proofs.YtajbhfmdmajpmaaGreatDoor
set_option linter.unusedVariables false
set_option linter.unusedSimpArgs false
open Go.RowKit
theorem rows_len {w : World} {A : Option Addr} {n : Nat} {l : List Row} (h : RowsAt w A n l) : ∀ r ∈ l, r.length ≤ 4611686018427387904 := fun r hr => by
  obtain ⟨i, hi⟩ := List.getElem?_of_mem hr
  have hl := (List.getElem?_eq_some_iff.1 hi).1
  obtain ⟨b, off, x, hA, hx, A', n', c', _, _, h3, h4⟩ := h.at_ (i := i) (by rw [← h.len]; exact hl)
  rw [hi] at hx
  cases hx
  have := h4.len
  omega
set_option maxRecDepth 100000 in
set_option maxHeartbeats 8000000 in
theorem R12com_any (d : Doc) (h : DocH) (k : Nat) (c : Com) (w : World) (hE : Env w) (hat : DocAt w d h) (hsm : EvsSmall d.evs) (hn : h.en ≤ 1000000) (hcn : h.cn ≤ 9223372036854775807) (hk : d.coms[k]? = some c) (hco : IW c.id ∧ IW c.ev ∧ c.author.size ≤ 9223372036854775807 ∧ c.text.size ≤ 9223372036854775807) :
    Calls Tryz.prog 66 #[.agg (d.cells h), .int .i64 (k : Int)] w fun en w' => en = .returned (.int .i64 (c.err d.last d.evs (prevC d.coms k))) ∧ Ext w w' := by
  have HX := Lib.hid ((Ext.refl w).alloc (.cells (d.cells h) 27))
  have HB := Lib.hid (Blk.new w 27 (d.cells h))
  have HF := Lib.hid (fun w' (hx : Ext w w') id => R12Find_any d h id w' (hat.evs.ext hx) hn)
  have HEv := Lib.hid hat.evs
  have HE := Lib.hid hE
  have HSm := Lib.hid hsm
  have HNm := Lib.hid (fun w' => RName_any c.author w' hco.2.2.1)
  have HVl := Lib.hid (fun w' => RValid_any c.text w' hco.2.2.2)
  have htx := hco.2.2.2
  have HPv := Lib.hid (fun w' (hx : Ext w w') h0 => prev_com (hat.coms.ext hx) (k := k) (by have := hat.coms.len; have := (List.getElem?_eq_some_iff.1 hk).1; omega) h0)
  have hkn : k < h.cn := by have := hat.coms.len; have := (List.getElem?_eq_some_iff.1 hk).1; omega
  obtain ⟨cb, coff, c', hca, hc', ⟨c0, c1, c2, c3, c4, c5, c6, c7⟩⟩ := hat.coms.at8 hkn
  obtain rfl : c = c' := by rw [hk] at hc'; exact Option.some.inj hc'
  replace c0 := fun o => ((Ext.refl w).alloc o).cell c0
  replace c1 := fun o => ((Ext.refl w).alloc o).cell c1
  replace c2 := fun o => ((Ext.refl w).alloc o).cell c2
  replace c3 := fun o => ((Ext.refl w).alloc o).cell c3
  replace c4 := fun o => ((Ext.refl w).alloc o).cell c4
  replace c5 := fun o => ((Ext.refl w).alloc o).cell c5
  replace c6 := fun o => ((Ext.refl w).alloc o).cell c6
  replace c7 := fun o => ((Ext.refl w).alloc o).cell c7
  have HK := Lib.hid hk
  clear hat hsm hE hco hc' hk
  obtain ⟨hra, hrn, hrc, hea, hen, hec, hca0, n, hcc⟩ := h
  unfold Doc.cells at *
  dsimp only at *
  subst hca
  go_enter Tryz.func66, Tryz.ntmps66
  by_cases h1 : c.id < 1 ∨ d.last < c.id
  case pos =>
    have H1 := Lib.hid (com_1 (evs := d.evs) (p := prevC d.coms k) h1)
    rcases h1 with h1 | h1
    · go_wp2_with fail
      go_ret
      exact ⟨ret_int H1.out.symm, HX.out.alloc _⟩
    · have h1b : ¬ c.id < 1 ∨ c.id < 1 := by omega
      by_cases h1c : c.id < 1
      · go_wp2_with fail
        go_ret
        exact ⟨ret_int H1.out.symm, HX.out.alloc _⟩
      · go_wp2_with fail
        go_ret
        exact ⟨ret_int H1.out.symm, HX.out.alloc _⟩
  have HA1 := Lib.hid h1
  have h1a : ¬ c.id < 1 := by omega
  have h1b : ¬ d.last < c.id := by omega
  clear h1
  go_wp2_with fail
  clear c0 c1 c2 c3 c4 c5 c6 c7 h1a h1b
  have HB_1 := Lib.hid (Blk.new' (w := (w.alloc (.cells #[.string d.title, .string d.lang, .int .u8 d.rate, .bool d.drop, .int .i64 d.last, .slice hra hrn hrc, .slice hea hen hec, .slice (some ⟨cb, coff, none⟩) n hcc] 27))) (g := w.heap.size + 1) (t := 139) (cs := #[.int .i64 c.id, .int .i64 c.ev, .int .i64 c.fr, .int .i64 c.til, .string c.author, .string c.text, .bool c.done, .bool c.lost]) (by simp))
  have ha_2 := (Ext.refl (w.alloc (.cells #[.string d.title, .string d.lang, .int .u8 d.rate, .bool d.drop, .int .i64 d.last, .slice hra hrn hrc, .slice hea hen hec, .slice (some ⟨cb, coff, none⟩) n hcc] 27))).alloc (.cells #[.int .i64 c.id, .int .i64 c.ev, .int .i64 c.fr, .int .i64 c.til, .string c.author, .string c.text, .bool c.done, .bool c.lost] 139)
  have HX_3 := Lib.hid (HX.out.trans ha_2)
  have HB_4 := Lib.hid (HB.out.ext ha_2)
  clear ha_2 HX HB
  by_cases hk0 : k = 0
  case pos =>
    subst hk0
    have HA2 : Hid (¬ ((prevC d.coms 0).map fun q => decide (c.id ≤ q)) = some true) := by show ¬ _; simp [prevC]
    refine wp_region_ew ((w.alloc (.cells #[.string d.title, .string d.lang, .int .u8 d.rate, .bool d.drop, .int .i64 d.last, .slice hra hrn hrc, .slice hea hen hec, .slice (some ⟨cb, coff, none⟩) n hcc] 27)).alloc (.cells #[.int .i64 c.id, .int .i64 c.ev, .int .i64 c.fr, .int .i64 c.til, .string c.author, .string c.text, .bool c.done, .bool c.lost] 139)) (Ext.refl _) (by kernel_rfl) (by kernel_rfl) ?_
    repeat (go_big_quiet_step ((fail)))
    refine wpQuiet_nil ?_
    rintro _ ⟨⟨w_5, hx_6⟩, rfl⟩
    try dsimp only
    have HX_7 := Lib.hid (HX_3.out.trans hx_6)
    have HB_8 := Lib.hid (HB_4.out.ext hx_6)
    have HB_9 := Lib.hid (HB_1.out.ext hx_6)
    clear hx_6 HX_3 HB_4 HB_1
    have hc_10 := fun o => HB_9.out.cell o
    go_wp2_with (refine wpList_loadB rfl 27 (.tmp 2) rfl w.heap.size 27 _ _ (by exact rfl) (by exact HB_8.out) Tryz.underlying27 rfl (by exact size_doc) ?_)
    clear hc_10
    refine (HF.out _ HX_7.out _).mono ?_
    rintro en w_11 ⟨rfl, hx_12⟩
    have HX_13 := Lib.hid (HX_7.out.trans hx_12)
    have HB_14 := Lib.hid (HB_8.out.ext hx_12)
    have HB_15 := Lib.hid (HB_9.out.ext hx_12)
    clear hx_12 HX_7 HB_8 HB_9
    cases hf : (findE d.evs c.id).isSome
    case true =>
      have HE7 := Lib.hid (com_3 HA1.out HA2.out hf)
      have hfi : ¬ findI d.evs c.id < 0 := by unfold findI; cases hq : findE d.evs c.id with | none => rw [hq] at hf; cases hf | some q => simp only; omega
      clear hf
      go_wp2_with fail
      go_ret
      exact ⟨ret_int HE7.out.symm, HX_13.out⟩
    have HA3 := Lib.hid hf
    have hfi : findI d.evs c.id = -1 := by unfold findI; cases hq : findE d.evs c.id with | none => rfl | some q => rw [hq] at hf; cases hf
    rw [hfi]
    clear hf hfi
    by_cases e1 : c.ev < 1
    · have HAn : Hid (c.anchorErr d.last d.evs = 2) := by show _ = _; unfold Com.anchorErr; rw [if_pos (by omega)]
      have HEr := Lib.hid (com_4 HA1.out HA2.out HA3.out (by rw [HAn.out]; decide))
      have hc_16 := fun o => HB_15.out.cell o
      have hc_17 := fun o => HB_14.out.cell o
      go_wp2_with fail
      clear hc_16 hc_17
      go_ret
      exact ⟨ret_int (by rw [HEr.out, HAn.out]), HX_13.out⟩
    by_cases e2 : d.last < c.ev
    · have HAn : Hid (c.anchorErr d.last d.evs = 2) := by show _ = _; unfold Com.anchorErr; rw [if_pos (by omega)]
      have HEr := Lib.hid (com_4 HA1.out HA2.out HA3.out (by rw [HAn.out]; decide))
      have hc_18 := fun o => HB_15.out.cell o
      have hc_19 := fun o => HB_14.out.cell o
      go_wp2_with fail
      clear hc_18 hc_19
      go_ret
      exact ⟨ret_int (by rw [HEr.out, HAn.out]), HX_13.out⟩
    have HA4 : Hid (¬ (c.ev < 1 ∨ d.last < c.ev)) := by show ¬ _; omega
    cases hlo : c.lost
    case true =>
      by_cases f1 : c.fr = 0
      case neg =>
        have f1b : (c.fr != 0) = true := by simpa using f1
        have HAn : Hid (c.anchorErr d.last d.evs = 2) := by show _ = _; unfold Com.anchorErr; rw [if_neg HA4.out, if_pos hlo, if_pos (.inl f1)]
        have HEr := Lib.hid (com_4 HA1.out HA2.out HA3.out (by rw [HAn.out]; decide))
        have hc_20 := fun o => HB_15.out.cell o
        have hc_21 := fun o => HB_14.out.cell o
        go_wp2_with fail
        clear hc_20 hc_21
        go_ret
        exact ⟨ret_int (by rw [HEr.out, HAn.out]), HX_13.out⟩
      have f1b : (c.fr != 0) = false := by simpa using f1
      by_cases f2 : c.til = 0
      case neg =>
        have f2b : (c.til != 0) = true := by simpa using f2
        have HAn : Hid (c.anchorErr d.last d.evs = 2) := by show _ = _; unfold Com.anchorErr; rw [if_neg HA4.out, if_pos hlo, if_pos (.inr f2)]
        have HEr := Lib.hid (com_4 HA1.out HA2.out HA3.out (by rw [HAn.out]; decide))
        have hc_22 := fun o => HB_15.out.cell o
        have hc_23 := fun o => HB_14.out.cell o
        go_wp2_with fail
        clear hc_22 hc_23
        go_ret
        exact ⟨ret_int (by rw [HEr.out, HAn.out]), HX_13.out⟩
      have f2b : (c.til != 0) = false := by simpa using f2
      have HAn : Hid (c.anchorErr d.last d.evs = 0) := by show _ = _; unfold Com.anchorErr; rw [if_neg HA4.out, if_pos hlo, if_neg (by omega)]
      clear f1 f2
      have HTl := Lib.hid (com_r HA1.out HA2.out HA3.out HAn.out)
      have hc_24 := fun o => HB_15.out.cell o
      have hc_25 := fun o => HB_14.out.cell o
      go_wp2_with fail
      clear hc_24 hc_25
      refine (HNm.out _).mono ?_
      rintro en w_26 ⟨rfl, hx_27⟩
      have HX_28 := Lib.hid (HX_13.out.trans hx_27)
      have HB_29 := Lib.hid (HB_14.out.ext hx_27)
      have HB_30 := Lib.hid (HB_15.out.ext hx_27)
      clear hx_27 HX_13 HB_14 HB_15
      cases hnm : nameB c.author
      · have HT1 : Hid (c.err d.last d.evs (prevC d.coms 0) = 5) := by show _ = _; rw [HTl.out, if_pos hnm]
        clear hnm
        go_wp2_with fail
        go_ret
        exact ⟨ret_int HT1.out.symm, HX_28.out⟩
      have HN1 := Lib.hid hnm
      clear hnm
      have hc_31 := fun o => HB_30.out.cell o
      go_wp2_with fail
      clear hc_31
      refine (HVl.out _).mono ?_
      rintro en w_32 ⟨rfl, hx_33⟩
      have HX_34 := Lib.hid (HX_28.out.trans hx_33)
      have HB_35 := Lib.hid (HB_29.out.ext hx_33)
      have HB_36 := Lib.hid (HB_30.out.ext hx_33)
      clear hx_33 HX_28 HB_29 HB_30
      cases hvl : vld c.text
      · have HT1 : Hid (c.err d.last d.evs (prevC d.coms 0) = 10) := by show _ = _; rw [HTl.out, if_neg (by rw [HN1.out]; decide), if_pos hvl]
        clear hvl
        go_wp2_with fail
        go_ret
        exact ⟨ret_int HT1.out.symm, HX_34.out⟩
      have HV1 := Lib.hid hvl
      clear hvl
      cases het : c.text.toList.isEmpty
      case true =>
        have HT1 : Hid (c.err d.last d.evs (prevC d.coms 0) = 4) := by show _ = _; rw [HTl.out, if_neg (by rw [HN1.out]; decide), if_neg (by rw [HV1.out]; decide), if_pos het]
        have hc_37 := fun o => HB_36.out.cell o
        go_wp2_with fail
        clear hc_37
        go_ret
        exact ⟨ret_int HT1.out.symm, HX_34.out⟩
      by_cases h4 : 400 < c.text.size
      · have h4i : (400 : Int) < (c.text.size : Int) := by omega
        have HT1 : Hid (c.err d.last d.evs (prevC d.coms 0) = 9) := by show _ = _; rw [HTl.out, if_neg (by rw [HN1.out]; decide), if_neg (by rw [HV1.out]; decide), if_neg (by rw [het]; decide), if_pos h4]
        clear h4
        have hc_38 := fun o => HB_36.out.cell o
        go_wp2_with fail
        clear hc_38
        go_ret
        exact ⟨ret_int HT1.out.symm, HX_34.out⟩
      have h4i : ¬ (400 : Int) < (c.text.size : Int) := by omega
      have HT1 : Hid (c.err d.last d.evs (prevC d.coms 0) = 0) := by show _ = _; rw [HTl.out, if_neg (by rw [HN1.out]; decide), if_neg (by rw [HV1.out]; decide), if_neg (by rw [het]; decide), if_neg h4]
      clear h4
      have hc_39 := fun o => HB_36.out.cell o
      go_wp2_with fail
      clear hc_39
      go_ret
      exact ⟨ret_int HT1.out.symm, HX_34.out⟩
    have hc_40 := fun o => HB_15.out.cell o
    have hc_41 := fun o => HB_14.out.cell o
    go_wp2_with (refine wpList_loadB rfl 27 (.tmp 2) rfl w.heap.size 27 _ _ (by exact rfl) (by exact HB_14.out) Tryz.underlying27 rfl (by exact size_doc) ?_)
    clear hc_40 hc_41
    clear e1 e2
    refine (HF.out _ HX_13.out _).mono ?_
    rintro en w_42 ⟨rfl, hx_43⟩
    have HX_44 := Lib.hid (HX_13.out.trans hx_43)
    have HB_45 := Lib.hid (HB_14.out.ext hx_43)
    have HB_46 := Lib.hid (HB_15.out.ext hx_43)
    clear hx_43 HX_13 HB_14 HB_15
    cases hfe : findE d.evs c.ev with
    | none =>
        have hfi : findI d.evs c.ev = -1 := by unfold findI; rw [hfe]
        have HAn : Hid (c.anchorErr d.last d.evs = 6) := by show _ = _; unfold Com.anchorErr; rw [if_neg HA4.out, if_neg (by rw [hlo]; decide), hfe]
        have HEr := Lib.hid (com_4 HA1.out HA2.out HA3.out (by rw [HAn.out]; decide))
        rw [hfi]
        clear hfe hfi
        go_wp2_with fail
        go_ret
        exact ⟨ret_int (by rw [HEr.out, HAn.out]), HX_44.out⟩
    | some m =>
        have hfi : findI d.evs c.ev = (m : Int) := by unfold findI; rw [hfe]
        have hmn : m < hen := by have := (List.findIdx?_eq_some_iff_getElem.1 hfe).1; have := HEv.out.len; omega
        have HAf : Hid (c.anchorErr d.last d.evs = if c.fr < 0 ∨ c.til ≤ c.fr ∨ (d.evs[m]?.map fun e => decide (e.len < c.til)) = some true then 2 else 0) := by show _ = _; unfold Com.anchorErr; rw [if_neg HA4.out, if_neg (by rw [hlo]; decide), hfe]
        rw [hfi]
        clear hfe hfi
        go_wp2_with fail
        by_cases g1 : c.fr < 0
        · have HAn : Hid (c.anchorErr d.last d.evs = 2) := by show _ = _; rw [HAf.out, if_pos (.inl g1)]
          have HEr := Lib.hid (com_4 HA1.out HA2.out HA3.out (by rw [HAn.out]; decide))
          have hr_47 := fun (x : EW w_42) (o : Nat) => (HB_46.out.ext x.ext).cell o
          refine wp_region_ew w_42 (Ext.refl _) (by kernel_rfl) (by kernel_rfl) ?_
          repeat (go_big_quiet_step ((fail)))
          refine wpQuiet_nil ?_
          rintro _ ⟨⟨w_48, hx_49⟩, rfl⟩
          try dsimp only
          clear hr_47
          have HX_50 := Lib.hid (HX_44.out.trans hx_49)
          have HB_51 := Lib.hid (HB_45.out.ext hx_49)
          have HB_52 := Lib.hid (HB_46.out.ext hx_49)
          clear hx_49 HX_44 HB_45 HB_46
          go_wp2_with fail
          go_ret
          exact ⟨ret_int (by rw [HEr.out, HAn.out]), HX_50.out⟩
        by_cases g2 : c.til ≤ c.fr
        · have HAn : Hid (c.anchorErr d.last d.evs = 2) := by show _ = _; rw [HAf.out, if_pos (.inr (.inl g2))]
          have HEr := Lib.hid (com_4 HA1.out HA2.out HA3.out (by rw [HAn.out]; decide))
          have hr_53 := fun (x : EW w_42) (o : Nat) => (HB_46.out.ext x.ext).cell o
          refine wp_region_ew w_42 (Ext.refl _) (by kernel_rfl) (by kernel_rfl) ?_
          repeat (go_big_quiet_step ((fail)))
          refine wpQuiet_nil ?_
          rintro _ ⟨⟨w_54, hx_55⟩, rfl⟩
          try dsimp only
          clear hr_53
          have HX_56 := Lib.hid (HX_44.out.trans hx_55)
          have HB_57 := Lib.hid (HB_45.out.ext hx_55)
          have HB_58 := Lib.hid (HB_46.out.ext hx_55)
          clear hx_55 HX_44 HB_45 HB_46
          go_wp2_with fail
          go_ret
          exact ⟨ret_int (by rw [HEr.out, HAn.out]), HX_56.out⟩
        obtain ⟨eb, eoff, x, A', n', c', hea', hxe, hxat, e0, e1, e2, e3, e4, e5, e6⟩ := (HEv.out.ext HX_44.out).at_ev hmn
        subst hea'
        have HAg : Hid (c.anchorErr d.last d.evs = if x.len < c.til then 2 else 0) := by
          show _ = _
          rw [HAf.out, hxe]
          by_cases hl : x.len < c.til
          · rw [if_pos (.inr (.inr (by simp [hl]))), if_pos hl]
          · rw [if_neg (by simp [hl]; omega), if_neg hl]
        have hsx := HSm.out x (List.mem_of_getElem? hxe)
        have HLx := Lib.hid (fun (y : EW w_42) => R11Len_any x A' n' c' y.w (HE.out.ext (HX_44.out.trans y.ext)) (hxat.ext y.ext) hsx.2 (rows_len hxat.1))
        unfold Ev.cells at HLx
        clear hxe hxat hsx
        have hr_59 := fun (x : EW w_42) (o : Nat) => (HB_46.out.ext x.ext).cell o
        have hr_60 := fun (x : EW w_42) (o : Nat) => (HB_45.out.ext x.ext).cell o
        have hr_61 := fun (y : EW w_42) => y.ext.cell e0
        have hr_62 := fun (y : EW w_42) => y.ext.cell e1
        have hr_63 := fun (y : EW w_42) => y.ext.cell e2
        have hr_64 := fun (y : EW w_42) => y.ext.cell e3
        have hr_65 := fun (y : EW w_42) => y.ext.cell e4
        have hr_66 := fun (y : EW w_42) => y.ext.cell e5
        have hr_67 := fun (y : EW w_42) => y.ext.cell e6
        refine wp_region_ew w_42 (Ext.refl _) (by kernel_rfl) (by kernel_rfl) ?_
        repeat (go_big_quiet_step ((go_at_call 105; exact EW.calls _ (HLx.out _))))
        refine wpQuiet_nil ?_
        rintro _ ⟨⟨w_68, hx_69⟩, rfl⟩
        try dsimp only
        clear hr_59 hr_60 hr_61 hr_62 hr_63 hr_64 hr_65 hr_66 hr_67
        have HX_70 := Lib.hid (HX_44.out.trans hx_69)
        have HB_71 := Lib.hid (HB_45.out.ext hx_69)
        have HB_72 := Lib.hid (HB_46.out.ext hx_69)
        clear hx_69 HX_44 HB_45 HB_46
        clear e0 e1 e2 e3 e4 e5 e6
        by_cases g3 : x.len < c.til
        · have HAn : Hid (c.anchorErr d.last d.evs = 2) := by show _ = _; rw [HAg.out, if_pos g3]
          have HEr := Lib.hid (com_4 HA1.out HA2.out HA3.out (by rw [HAn.out]; decide))
          go_wp2_with fail
          go_ret
          exact ⟨ret_int (by rw [HEr.out, HAn.out]), HX_70.out⟩
        have HAn : Hid (c.anchorErr d.last d.evs = 0) := by show _ = _; rw [HAg.out, if_neg g3]
        have HTl := Lib.hid (com_r HA1.out HA2.out HA3.out HAn.out)
        have hc_73 := fun o => HB_72.out.cell o
        have hc_74 := fun o => HB_71.out.cell o
        go_wp2_with fail
        clear hc_73 hc_74
        refine (HNm.out _).mono ?_
        rintro en w_75 ⟨rfl, hx_76⟩
        have HX_77 := Lib.hid (HX_70.out.trans hx_76)
        have HB_78 := Lib.hid (HB_71.out.ext hx_76)
        have HB_79 := Lib.hid (HB_72.out.ext hx_76)
        clear hx_76 HX_70 HB_71 HB_72
        cases hnm : nameB c.author
        · have HT1 : Hid (c.err d.last d.evs (prevC d.coms 0) = 5) := by show _ = _; rw [HTl.out, if_pos hnm]
          clear hnm
          go_wp2_with fail
          go_ret
          exact ⟨ret_int HT1.out.symm, HX_77.out⟩
        have HN1 := Lib.hid hnm
        clear hnm
        have hc_80 := fun o => HB_79.out.cell o
        go_wp2_with fail
        clear hc_80
        refine (HVl.out _).mono ?_
        rintro en w_81 ⟨rfl, hx_82⟩
        have HX_83 := Lib.hid (HX_77.out.trans hx_82)
        have HB_84 := Lib.hid (HB_78.out.ext hx_82)
        have HB_85 := Lib.hid (HB_79.out.ext hx_82)
        clear hx_82 HX_77 HB_78 HB_79
        cases hvl : vld c.text
        · have HT1 : Hid (c.err d.last d.evs (prevC d.coms 0) = 10) := by show _ = _; rw [HTl.out, if_neg (by rw [HN1.out]; decide), if_pos hvl]
          clear hvl
          go_wp2_with fail
          go_ret
          exact ⟨ret_int HT1.out.symm, HX_83.out⟩
        have HV1 := Lib.hid hvl
        clear hvl
        cases het : c.text.toList.isEmpty
        case true =>
          have HT1 : Hid (c.err d.last d.evs (prevC d.coms 0) = 4) := by show _ = _; rw [HTl.out, if_neg (by rw [HN1.out]; decide), if_neg (by rw [HV1.out]; decide), if_pos het]
          have hc_86 := fun o => HB_85.out.cell o
          go_wp2_with fail
          clear hc_86
          go_ret
          exact ⟨ret_int HT1.out.symm, HX_83.out⟩
        by_cases h4 : 400 < c.text.size
        · have h4i : (400 : Int) < (c.text.size : Int) := by omega
          have HT1 : Hid (c.err d.last d.evs (prevC d.coms 0) = 9) := by show _ = _; rw [HTl.out, if_neg (by rw [HN1.out]; decide), if_neg (by rw [HV1.out]; decide), if_neg (by rw [het]; decide), if_pos h4]
          clear h4
          have hc_87 := fun o => HB_85.out.cell o
          go_wp2_with fail
          clear hc_87
          go_ret
          exact ⟨ret_int HT1.out.symm, HX_83.out⟩
        have h4i : ¬ (400 : Int) < (c.text.size : Int) := by omega
        have HT1 : Hid (c.err d.last d.evs (prevC d.coms 0) = 0) := by show _ = _; rw [HTl.out, if_neg (by rw [HN1.out]; decide), if_neg (by rw [HV1.out]; decide), if_neg (by rw [het]; decide), if_neg h4]
        clear h4
        have hc_88 := fun o => HB_85.out.cell o
        go_wp2_with fail
        clear hc_88
        go_ret
        exact ⟨ret_int HT1.out.symm, HX_83.out⟩
  obtain ⟨b', off', q, hA, p0, hq⟩ := HPv.out _ HX_3.out (by omega)
  cases hA
  have hki : (0 : Int) < (k : Int) := by omega
  have hkp : 0 < k := by omega
  have hk1 : ((k : Int) - 1).toNat = k - 1 := by omega
  have hk2 : (k : Int) - 1 = ((k - 1 : Nat) : Int) := by omega
  have HQ := Lib.hid hq
  clear hq
  by_cases hle : c.id ≤ q
  · have HE8 := Lib.hid (com_2 (evs := d.evs) HA1.out (show ((prevC d.coms k).map fun q => decide (c.id ≤ q)) = some true by rw [HQ.out]; simp [hle]))
    have hr_89 := fun (x : EW ((w.alloc (.cells #[.string d.title, .string d.lang, .int .u8 d.rate, .bool d.drop, .int .i64 d.last, .slice hra hrn hrc, .slice hea hen hec, .slice (some ⟨cb, coff, none⟩) n hcc] 27)).alloc (.cells #[.int .i64 c.id, .int .i64 c.ev, .int .i64 c.fr, .int .i64 c.til, .string c.author, .string c.text, .bool c.done, .bool c.lost] 139))) (o : Nat) => (HB_1.out.ext x.ext).cell o
    have hr_90 := fun (x : EW ((w.alloc (.cells #[.string d.title, .string d.lang, .int .u8 d.rate, .bool d.drop, .int .i64 d.last, .slice hra hrn hrc, .slice hea hen hec, .slice (some ⟨cb, coff, none⟩) n hcc] 27)).alloc (.cells #[.int .i64 c.id, .int .i64 c.ev, .int .i64 c.fr, .int .i64 c.til, .string c.author, .string c.text, .bool c.done, .bool c.lost] 139))) (o : Nat) => (HB_4.out.ext x.ext).cell o
    have hr_91 := fun (y : EW ((w.alloc (.cells #[.string d.title, .string d.lang, .int .u8 d.rate, .bool d.drop, .int .i64 d.last, .slice hra hrn hrc, .slice hea hen hec, .slice (some ⟨cb, coff, none⟩) n hcc] 27)).alloc (.cells #[.int .i64 c.id, .int .i64 c.ev, .int .i64 c.fr, .int .i64 c.til, .string c.author, .string c.text, .bool c.done, .bool c.lost] 139))) => y.ext.cell p0
    refine wp_region_ew ((w.alloc (.cells #[.string d.title, .string d.lang, .int .u8 d.rate, .bool d.drop, .int .i64 d.last, .slice hra hrn hrc, .slice hea hen hec, .slice (some ⟨cb, coff, none⟩) n hcc] 27)).alloc (.cells #[.int .i64 c.id, .int .i64 c.ev, .int .i64 c.fr, .int .i64 c.til, .string c.author, .string c.text, .bool c.done, .bool c.lost] 139)) (Ext.refl _) (by kernel_rfl) (by kernel_rfl) ?_
    repeat (go_big_quiet_step ((fail)))
    refine wpQuiet_nil ?_
    rintro _ ⟨⟨w_92, hx_93⟩, rfl⟩
    try dsimp only
    clear hr_89 hr_90 hr_91
    have HX_94 := Lib.hid (HX_3.out.trans hx_93)
    have HB_95 := Lib.hid (HB_4.out.ext hx_93)
    have HB_96 := Lib.hid (HB_1.out.ext hx_93)
    clear hx_93 HX_3 HB_4 HB_1
    go_wp2_with fail
    go_ret
    exact ⟨ret_int HE8.out.symm, HX_94.out⟩
  have HA2 : Hid (¬ ((prevC d.coms k).map fun q => decide (c.id ≤ q)) = some true) := by show ¬ _; rw [HQ.out]; simp; omega
  have hr_97 := fun (x : EW ((w.alloc (.cells #[.string d.title, .string d.lang, .int .u8 d.rate, .bool d.drop, .int .i64 d.last, .slice hra hrn hrc, .slice hea hen hec, .slice (some ⟨cb, coff, none⟩) n hcc] 27)).alloc (.cells #[.int .i64 c.id, .int .i64 c.ev, .int .i64 c.fr, .int .i64 c.til, .string c.author, .string c.text, .bool c.done, .bool c.lost] 139))) (o : Nat) => (HB_1.out.ext x.ext).cell o
  have hr_98 := fun (x : EW ((w.alloc (.cells #[.string d.title, .string d.lang, .int .u8 d.rate, .bool d.drop, .int .i64 d.last, .slice hra hrn hrc, .slice hea hen hec, .slice (some ⟨cb, coff, none⟩) n hcc] 27)).alloc (.cells #[.int .i64 c.id, .int .i64 c.ev, .int .i64 c.fr, .int .i64 c.til, .string c.author, .string c.text, .bool c.done, .bool c.lost] 139))) (o : Nat) => (HB_4.out.ext x.ext).cell o
  have hr_99 := fun (y : EW ((w.alloc (.cells #[.string d.title, .string d.lang, .int .u8 d.rate, .bool d.drop, .int .i64 d.last, .slice hra hrn hrc, .slice hea hen hec, .slice (some ⟨cb, coff, none⟩) n hcc] 27)).alloc (.cells #[.int .i64 c.id, .int .i64 c.ev, .int .i64 c.fr, .int .i64 c.til, .string c.author, .string c.text, .bool c.done, .bool c.lost] 139))) => y.ext.cell p0
  refine wp_region_ew ((w.alloc (.cells #[.string d.title, .string d.lang, .int .u8 d.rate, .bool d.drop, .int .i64 d.last, .slice hra hrn hrc, .slice hea hen hec, .slice (some ⟨cb, coff, none⟩) n hcc] 27)).alloc (.cells #[.int .i64 c.id, .int .i64 c.ev, .int .i64 c.fr, .int .i64 c.til, .string c.author, .string c.text, .bool c.done, .bool c.lost] 139)) (Ext.refl _) (by kernel_rfl) (by kernel_rfl) ?_
  repeat (go_big_quiet_step ((fail)))
  refine wpQuiet_nil ?_
  rintro _ ⟨⟨w_100, hx_101⟩, rfl⟩
  try dsimp only
  clear hr_97 hr_98 hr_99
  have HX_102 := Lib.hid (HX_3.out.trans hx_101)
  have HB_103 := Lib.hid (HB_4.out.ext hx_101)
  have HB_104 := Lib.hid (HB_1.out.ext hx_101)
  clear hx_101 HX_3 HB_4 HB_1
  clear hle p0
  have hc_105 := fun o => HB_104.out.cell o
  go_wp2_with (refine wpList_loadB rfl 27 (.tmp 2) rfl w.heap.size 27 _ _ (by exact rfl) (by exact HB_103.out) Tryz.underlying27 rfl (by exact size_doc) ?_)
  clear hc_105
  refine (HF.out _ HX_102.out _).mono ?_
  rintro en w_106 ⟨rfl, hx_107⟩
  have HX_108 := Lib.hid (HX_102.out.trans hx_107)
  have HB_109 := Lib.hid (HB_103.out.ext hx_107)
  have HB_110 := Lib.hid (HB_104.out.ext hx_107)
  clear hx_107 HX_102 HB_103 HB_104
  cases hf : (findE d.evs c.id).isSome
  case true =>
    have HE7 := Lib.hid (com_3 HA1.out HA2.out hf)
    have hfi : ¬ findI d.evs c.id < 0 := by unfold findI; cases hq : findE d.evs c.id with | none => rw [hq] at hf; cases hf | some q => simp only; omega
    clear hf
    go_wp2_with fail
    go_ret
    exact ⟨ret_int HE7.out.symm, HX_108.out⟩
  have HA3 := Lib.hid hf
  have hfi : findI d.evs c.id = -1 := by unfold findI; cases hq : findE d.evs c.id with | none => rfl | some q => rw [hq] at hf; cases hf
  rw [hfi]
  clear hf hfi
  by_cases e1 : c.ev < 1
  · have HAn : Hid (c.anchorErr d.last d.evs = 2) := by show _ = _; unfold Com.anchorErr; rw [if_pos (by omega)]
    have HEr := Lib.hid (com_4 HA1.out HA2.out HA3.out (by rw [HAn.out]; decide))
    have hc_111 := fun o => HB_110.out.cell o
    have hc_112 := fun o => HB_109.out.cell o
    go_wp2_with fail
    clear hc_111 hc_112
    go_ret
    exact ⟨ret_int (by rw [HEr.out, HAn.out]), HX_108.out⟩
  by_cases e2 : d.last < c.ev
  · have HAn : Hid (c.anchorErr d.last d.evs = 2) := by show _ = _; unfold Com.anchorErr; rw [if_pos (by omega)]
    have HEr := Lib.hid (com_4 HA1.out HA2.out HA3.out (by rw [HAn.out]; decide))
    have hc_113 := fun o => HB_110.out.cell o
    have hc_114 := fun o => HB_109.out.cell o
    go_wp2_with fail
    clear hc_113 hc_114
    go_ret
    exact ⟨ret_int (by rw [HEr.out, HAn.out]), HX_108.out⟩
  have HA4 : Hid (¬ (c.ev < 1 ∨ d.last < c.ev)) := by show ¬ _; omega
  cases hlo : c.lost
  case true =>
    by_cases f1 : c.fr = 0
    case neg =>
      have f1b : (c.fr != 0) = true := by simpa using f1
      have HAn : Hid (c.anchorErr d.last d.evs = 2) := by show _ = _; unfold Com.anchorErr; rw [if_neg HA4.out, if_pos hlo, if_pos (.inl f1)]
      have HEr := Lib.hid (com_4 HA1.out HA2.out HA3.out (by rw [HAn.out]; decide))
      have hc_115 := fun o => HB_110.out.cell o
      have hc_116 := fun o => HB_109.out.cell o
      go_wp2_with fail
      clear hc_115 hc_116
      go_ret
      exact ⟨ret_int (by rw [HEr.out, HAn.out]), HX_108.out⟩
    have f1b : (c.fr != 0) = false := by simpa using f1
    by_cases f2 : c.til = 0
    case neg =>
      have f2b : (c.til != 0) = true := by simpa using f2
      have HAn : Hid (c.anchorErr d.last d.evs = 2) := by show _ = _; unfold Com.anchorErr; rw [if_neg HA4.out, if_pos hlo, if_pos (.inr f2)]
      have HEr := Lib.hid (com_4 HA1.out HA2.out HA3.out (by rw [HAn.out]; decide))
      have hc_117 := fun o => HB_110.out.cell o
      have hc_118 := fun o => HB_109.out.cell o
      go_wp2_with fail
      clear hc_117 hc_118
      go_ret
      exact ⟨ret_int (by rw [HEr.out, HAn.out]), HX_108.out⟩
    have f2b : (c.til != 0) = false := by simpa using f2
    have HAn : Hid (c.anchorErr d.last d.evs = 0) := by show _ = _; unfold Com.anchorErr; rw [if_neg HA4.out, if_pos hlo, if_neg (by omega)]
    clear f1 f2
    have HTl := Lib.hid (com_r HA1.out HA2.out HA3.out HAn.out)
    have hc_119 := fun o => HB_110.out.cell o
    have hc_120 := fun o => HB_109.out.cell o
    go_wp2_with fail
    clear hc_119 hc_120
    refine (HNm.out _).mono ?_
    rintro en w_121 ⟨rfl, hx_122⟩
    have HX_123 := Lib.hid (HX_108.out.trans hx_122)
    have HB_124 := Lib.hid (HB_109.out.ext hx_122)
    have HB_125 := Lib.hid (HB_110.out.ext hx_122)
    clear hx_122 HX_108 HB_109 HB_110
    cases hnm : nameB c.author
    · have HT1 : Hid (c.err d.last d.evs (prevC d.coms k) = 5) := by show _ = _; rw [HTl.out, if_pos hnm]
      clear hnm
      go_wp2_with fail
      go_ret
      exact ⟨ret_int HT1.out.symm, HX_123.out⟩
    have HN1 := Lib.hid hnm
    clear hnm
    have hc_126 := fun o => HB_125.out.cell o
    go_wp2_with fail
    clear hc_126
    refine (HVl.out _).mono ?_
    rintro en w_127 ⟨rfl, hx_128⟩
    have HX_129 := Lib.hid (HX_123.out.trans hx_128)
    have HB_130 := Lib.hid (HB_124.out.ext hx_128)
    have HB_131 := Lib.hid (HB_125.out.ext hx_128)
    clear hx_128 HX_123 HB_124 HB_125
    cases hvl : vld c.text
    · have HT1 : Hid (c.err d.last d.evs (prevC d.coms k) = 10) := by show _ = _; rw [HTl.out, if_neg (by rw [HN1.out]; decide), if_pos hvl]
      clear hvl
      go_wp2_with fail
      go_ret
      exact ⟨ret_int HT1.out.symm, HX_129.out⟩
    have HV1 := Lib.hid hvl
    clear hvl
    cases het : c.text.toList.isEmpty
    case true =>
      have HT1 : Hid (c.err d.last d.evs (prevC d.coms k) = 4) := by show _ = _; rw [HTl.out, if_neg (by rw [HN1.out]; decide), if_neg (by rw [HV1.out]; decide), if_pos het]
      have hc_132 := fun o => HB_131.out.cell o
      go_wp2_with fail
      clear hc_132
      go_ret
      exact ⟨ret_int HT1.out.symm, HX_129.out⟩
    by_cases h4 : 400 < c.text.size
    · have h4i : (400 : Int) < (c.text.size : Int) := by omega
      have HT1 : Hid (c.err d.last d.evs (prevC d.coms k) = 9) := by show _ = _; rw [HTl.out, if_neg (by rw [HN1.out]; decide), if_neg (by rw [HV1.out]; decide), if_neg (by rw [het]; decide), if_pos h4]
      clear h4
      have hc_133 := fun o => HB_131.out.cell o
      go_wp2_with fail
      clear hc_133
      go_ret
      exact ⟨ret_int HT1.out.symm, HX_129.out⟩
    have h4i : ¬ (400 : Int) < (c.text.size : Int) := by omega
    have HT1 : Hid (c.err d.last d.evs (prevC d.coms k) = 0) := by show _ = _; rw [HTl.out, if_neg (by rw [HN1.out]; decide), if_neg (by rw [HV1.out]; decide), if_neg (by rw [het]; decide), if_neg h4]
    clear h4
    have hc_134 := fun o => HB_131.out.cell o
    go_wp2_with fail
    clear hc_134
    go_ret
    exact ⟨ret_int HT1.out.symm, HX_129.out⟩
  have hc_135 := fun o => HB_110.out.cell o
  have hc_136 := fun o => HB_109.out.cell o
  go_wp2_with (refine wpList_loadB rfl 27 (.tmp 2) rfl w.heap.size 27 _ _ (by exact rfl) (by exact HB_109.out) Tryz.underlying27 rfl (by exact size_doc) ?_)
  clear hc_135 hc_136
  clear e1 e2
  refine (HF.out _ HX_108.out _).mono ?_
  rintro en w_137 ⟨rfl, hx_138⟩
  have HX_139 := Lib.hid (HX_108.out.trans hx_138)
  have HB_140 := Lib.hid (HB_109.out.ext hx_138)
  have HB_141 := Lib.hid (HB_110.out.ext hx_138)
  clear hx_138 HX_108 HB_109 HB_110
  cases hfe : findE d.evs c.ev with
  | none =>
      have hfi : findI d.evs c.ev = -1 := by unfold findI; rw [hfe]
      have HAn : Hid (c.anchorErr d.last d.evs = 6) := by show _ = _; unfold Com.anchorErr; rw [if_neg HA4.out, if_neg (by rw [hlo]; decide), hfe]
      have HEr := Lib.hid (com_4 HA1.out HA2.out HA3.out (by rw [HAn.out]; decide))
      rw [hfi]
      clear hfe hfi
      go_wp2_with fail
      go_ret
      exact ⟨ret_int (by rw [HEr.out, HAn.out]), HX_139.out⟩
  | some m =>
      have hfi : findI d.evs c.ev = (m : Int) := by unfold findI; rw [hfe]
      have hmn : m < hen := by have := (List.findIdx?_eq_some_iff_getElem.1 hfe).1; have := HEv.out.len; omega
      have HAf : Hid (c.anchorErr d.last d.evs = if c.fr < 0 ∨ c.til ≤ c.fr ∨ (d.evs[m]?.map fun e => decide (e.len < c.til)) = some true then 2 else 0) := by show _ = _; unfold Com.anchorErr; rw [if_neg HA4.out, if_neg (by rw [hlo]; decide), hfe]
      rw [hfi]
      clear hfe hfi
      go_wp2_with fail
      by_cases g1 : c.fr < 0
      · have HAn : Hid (c.anchorErr d.last d.evs = 2) := by show _ = _; rw [HAf.out, if_pos (.inl g1)]
        have HEr := Lib.hid (com_4 HA1.out HA2.out HA3.out (by rw [HAn.out]; decide))
        have hr_142 := fun (x : EW w_137) (o : Nat) => (HB_141.out.ext x.ext).cell o
        refine wp_region_ew w_137 (Ext.refl _) (by kernel_rfl) (by kernel_rfl) ?_
        repeat (go_big_quiet_step ((fail)))
        refine wpQuiet_nil ?_
        rintro _ ⟨⟨w_143, hx_144⟩, rfl⟩
        try dsimp only
        clear hr_142
        have HX_145 := Lib.hid (HX_139.out.trans hx_144)
        have HB_146 := Lib.hid (HB_140.out.ext hx_144)
        have HB_147 := Lib.hid (HB_141.out.ext hx_144)
        clear hx_144 HX_139 HB_140 HB_141
        go_wp2_with fail
        go_ret
        exact ⟨ret_int (by rw [HEr.out, HAn.out]), HX_145.out⟩
      by_cases g2 : c.til ≤ c.fr
      · have HAn : Hid (c.anchorErr d.last d.evs = 2) := by show _ = _; rw [HAf.out, if_pos (.inr (.inl g2))]
        have HEr := Lib.hid (com_4 HA1.out HA2.out HA3.out (by rw [HAn.out]; decide))
        have hr_148 := fun (x : EW w_137) (o : Nat) => (HB_141.out.ext x.ext).cell o
        refine wp_region_ew w_137 (Ext.refl _) (by kernel_rfl) (by kernel_rfl) ?_
        repeat (go_big_quiet_step ((fail)))
        refine wpQuiet_nil ?_
        rintro _ ⟨⟨w_149, hx_150⟩, rfl⟩
        try dsimp only
        clear hr_148
        have HX_151 := Lib.hid (HX_139.out.trans hx_150)
        have HB_152 := Lib.hid (HB_140.out.ext hx_150)
        have HB_153 := Lib.hid (HB_141.out.ext hx_150)
        clear hx_150 HX_139 HB_140 HB_141
        go_wp2_with fail
        go_ret
        exact ⟨ret_int (by rw [HEr.out, HAn.out]), HX_151.out⟩
      obtain ⟨eb, eoff, x, A', n', c', hea', hxe, hxat, e0, e1, e2, e3, e4, e5, e6⟩ := (HEv.out.ext HX_139.out).at_ev hmn
      subst hea'
      have HAg : Hid (c.anchorErr d.last d.evs = if x.len < c.til then 2 else 0) := by
        show _ = _
        rw [HAf.out, hxe]
        by_cases hl : x.len < c.til
        · rw [if_pos (.inr (.inr (by simp [hl]))), if_pos hl]
        · rw [if_neg (by simp [hl]; omega), if_neg hl]
      have hsx := HSm.out x (List.mem_of_getElem? hxe)
      have HLx := Lib.hid (fun (y : EW w_137) => R11Len_any x A' n' c' y.w (HE.out.ext (HX_139.out.trans y.ext)) (hxat.ext y.ext) hsx.2 (rows_len hxat.1))
      unfold Ev.cells at HLx
      clear hxe hxat hsx
      have hr_154 := fun (x : EW w_137) (o : Nat) => (HB_141.out.ext x.ext).cell o
      have hr_155 := fun (x : EW w_137) (o : Nat) => (HB_140.out.ext x.ext).cell o
      have hr_156 := fun (y : EW w_137) => y.ext.cell e0
      have hr_157 := fun (y : EW w_137) => y.ext.cell e1
      have hr_158 := fun (y : EW w_137) => y.ext.cell e2
      have hr_159 := fun (y : EW w_137) => y.ext.cell e3
      have hr_160 := fun (y : EW w_137) => y.ext.cell e4
      have hr_161 := fun (y : EW w_137) => y.ext.cell e5
      have hr_162 := fun (y : EW w_137) => y.ext.cell e6
      refine wp_region_ew w_137 (Ext.refl _) (by kernel_rfl) (by kernel_rfl) ?_
      repeat (go_big_quiet_step ((go_at_call 105; exact EW.calls _ (HLx.out _))))
      refine wpQuiet_nil ?_
      rintro _ ⟨⟨w_163, hx_164⟩, rfl⟩
      try dsimp only
      clear hr_154 hr_155 hr_156 hr_157 hr_158 hr_159 hr_160 hr_161 hr_162
      have HX_165 := Lib.hid (HX_139.out.trans hx_164)
      have HB_166 := Lib.hid (HB_140.out.ext hx_164)
      have HB_167 := Lib.hid (HB_141.out.ext hx_164)
      clear hx_164 HX_139 HB_140 HB_141
      clear e0 e1 e2 e3 e4 e5 e6
      by_cases g3 : x.len < c.til
      · have HAn : Hid (c.anchorErr d.last d.evs = 2) := by show _ = _; rw [HAg.out, if_pos g3]
        have HEr := Lib.hid (com_4 HA1.out HA2.out HA3.out (by rw [HAn.out]; decide))
        go_wp2_with fail
        go_ret
        exact ⟨ret_int (by rw [HEr.out, HAn.out]), HX_165.out⟩
      have HAn : Hid (c.anchorErr d.last d.evs = 0) := by show _ = _; rw [HAg.out, if_neg g3]
      have HTl := Lib.hid (com_r HA1.out HA2.out HA3.out HAn.out)
      have hc_168 := fun o => HB_167.out.cell o
      have hc_169 := fun o => HB_166.out.cell o
      go_wp2_with fail
      clear hc_168 hc_169
      refine (HNm.out _).mono ?_
      rintro en w_170 ⟨rfl, hx_171⟩
      have HX_172 := Lib.hid (HX_165.out.trans hx_171)
      have HB_173 := Lib.hid (HB_166.out.ext hx_171)
      have HB_174 := Lib.hid (HB_167.out.ext hx_171)
      clear hx_171 HX_165 HB_166 HB_167
      cases hnm : nameB c.author
      · have HT1 : Hid (c.err d.last d.evs (prevC d.coms k) = 5) := by show _ = _; rw [HTl.out, if_pos hnm]
        clear hnm
        go_wp2_with fail
        go_ret
        exact ⟨ret_int HT1.out.symm, HX_172.out⟩
      have HN1 := Lib.hid hnm
      clear hnm
      have hc_175 := fun o => HB_174.out.cell o
      go_wp2_with fail
      clear hc_175
      refine (HVl.out _).mono ?_
      rintro en w_176 ⟨rfl, hx_177⟩
      have HX_178 := Lib.hid (HX_172.out.trans hx_177)
      have HB_179 := Lib.hid (HB_173.out.ext hx_177)
      have HB_180 := Lib.hid (HB_174.out.ext hx_177)
      clear hx_177 HX_172 HB_173 HB_174
      cases hvl : vld c.text
      · have HT1 : Hid (c.err d.last d.evs (prevC d.coms k) = 10) := by show _ = _; rw [HTl.out, if_neg (by rw [HN1.out]; decide), if_pos hvl]
        clear hvl
        go_wp2_with fail
        go_ret
        exact ⟨ret_int HT1.out.symm, HX_178.out⟩
      have HV1 := Lib.hid hvl
      clear hvl
      cases het : c.text.toList.isEmpty
      case true =>
        have HT1 : Hid (c.err d.last d.evs (prevC d.coms k) = 4) := by show _ = _; rw [HTl.out, if_neg (by rw [HN1.out]; decide), if_neg (by rw [HV1.out]; decide), if_pos het]
        have hc_181 := fun o => HB_180.out.cell o
        go_wp2_with fail
        clear hc_181
        go_ret
        exact ⟨ret_int HT1.out.symm, HX_178.out⟩
      by_cases h4 : 400 < c.text.size
      · have h4i : (400 : Int) < (c.text.size : Int) := by omega
        have HT1 : Hid (c.err d.last d.evs (prevC d.coms k) = 9) := by show _ = _; rw [HTl.out, if_neg (by rw [HN1.out]; decide), if_neg (by rw [HV1.out]; decide), if_neg (by rw [het]; decide), if_pos h4]
        clear h4
        have hc_182 := fun o => HB_180.out.cell o
        go_wp2_with fail
        clear hc_182
        go_ret
        exact ⟨ret_int HT1.out.symm, HX_178.out⟩
      have h4i : ¬ (400 : Int) < (c.text.size : Int) := by omega
      have HT1 : Hid (c.err d.last d.evs (prevC d.coms k) = 0) := by show _ = _; rw [HTl.out, if_neg (by rw [HN1.out]; decide), if_neg (by rw [HV1.out]; decide), if_neg (by rw [het]; decide), if_neg h4]
      clear h4
      have hc_183 := fun o => HB_180.out.cell o
      go_wp2_with fail
      clear hc_183
      go_ret
      exact ⟨ret_int HT1.out.symm, HX_178.out⟩
end Go.Proofs.YtajbhfmdmajpmaaGreatDoor
