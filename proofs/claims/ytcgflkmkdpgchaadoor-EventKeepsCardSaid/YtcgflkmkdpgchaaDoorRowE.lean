/- The walks of event.row, event.spans, event.KindName. -/
import Derived.Test.YtcgflkmkdpgchaaDoorStyleC
namespace Go.Proofs.YtcgflkmkdpgchaaDoor
set_option linter.unusedVariables false
set_option linter.unusedSimpArgs false
open Go.RowKit

/-- may a text not be that of a row? -/
def badS (s : ByteArray) : Bool := s.toList.isEmpty || decide (s.data.toList.head? = some 32) || decide (s.data.toList.getLast? = some 32) || Lib.contains s.data.toList [32, 32]
def textOf (l : Row) : ByteArray := ⟨(rowText l).toArray⟩
/-- the error of a row of an event -/
def rowErrE (l : Row) : Int := if rowErr l ≠ 0 then rowErr l else if badS (textOf l) = true then 4 else if 32 < rowLen l then 11 else 0

theorem Contains_any (s : ByteArray) (w : World) (hE : Env w) (hs : s.size < 4294967281) :
    Calls Tryd.prog 49 #[.string s, .string ⟨#[32, 32]⟩] w fun e w' => e = .returned (.bool (Lib.contains s.data.toList [32, 32])) ∧ w = w' := by
  obtain ⟨m, hm⟩ := hE.2
  exact (Tryd.strings_Contains s ⟨#[32, 32]⟩ m w hs hm).mono fun _ _ ⟨a, b⟩ => ⟨a, b.symm⟩

theorem head_eq (s : ByteArray) (h : 0 < s.size) : (s.data.toList.head? = some 32) ↔ ((s[0].toNat : Int) == 32) = true := by
  have e := take_snoc s 0 h
  simp only [Nat.zero_add, List.take_zero, List.nil_append] at e
  have hh : s.data.toList.head? = some s[0] := by
    cases hl : s.data.toList with
    | nil => rw [hl] at e; simp at e
    | cons a l => rw [hl] at e; simp at e; simp [e]
  rw [hh]
  constructor
  · intro h1
    have h2 : s[0] = 32 := Option.some.inj h1
    rw [h2]; rfl
  · intro h1
    have h2 : (s[0].toNat : Int) = 32 := by simpa using h1
    congr 1
    apply UInt8.toNat_inj.1
    have : s[0].toNat = 32 := by omega
    rw [this]; rfl

theorem last_eq (s : ByteArray) (h : 0 < s.size) : (s.data.toList.getLast? = some 32) ↔ ((s[s.size - 1].toNat : Int) == 32) = true := by
  have hh : s.data.toList.getLast? = some s[s.size - 1] := by
    rw [List.getLast?_eq_getElem?]
    have hl : s.data.toList.length = s.size := by simp
    rw [hl, List.getElem?_eq_getElem (by rw [hl]; omega)]
    rfl
  rw [hh]
  constructor
  · intro h1
    have h2 : s[s.size - 1] = 32 := Option.some.inj h1
    rw [h2]; rfl
  · intro h1
    have h2 : (s[s.size - 1].toNat : Int) = 32 := by simpa using h1
    congr 1
    apply UInt8.toNat_inj.1
    have : s[s.size - 1].toNat = 32 := by omega
    rw [this]; rfl

set_option maxRecDepth 100000 in
set_option maxHeartbeats 2000000 in
theorem row_any (A : Option Addr) (n c : Nat) (l : Row) (w : World) (hE : Env w) (hl : RunsAt w A n l) (hb : ∀ r ∈ l, r.text.size ≤ 4611686018427387904 ∧ r.ruby.size ≤ 4611686018427387904) (hn : n ≤ 4611686018427387904) (hbt : rowBytes l < 4294967281) :
    Calls Tryd.prog 35 #[.agg #[.slice A n c]] w fun e w' => e = .returned (.int .i64 (rowErrE l)) ∧ Ext w w' := by
  have HL := Lib.hid hl
  have HEn := Lib.hid hE
  have HBd := Lib.hid hb
  clear hl hE hb
  have hsz : (textOf l).size = rowBytes l := by rw [← rowText_len]; rfl
  have HSz := Lib.hid hsz
  clear hsz
  by_cases h1 : rowErr l = 0
  · have HF : Hid (rowErrE l = if badS (textOf l) = true then 4 else if 32 < rowLen l then 11 else 0) := by show _ = _; unfold rowErrE; rw [if_neg (by simp [h1])]
    have h1b : (rowErr l != 0) = false := by simp [h1]
    have HR := Lib.hid h1
    clear h1
    go_enter Tryd.func35, Tryd.ntmps35
    go_wp2_with fail
    refine (SCheck_any A n c l _ (HEn.out.ext ((Ext.refl w).alloc _)) (HL.out.ext ((Ext.refl w).alloc _)) HBd.out hn).mono ?_
    rintro e w1 ⟨rfl, hx1⟩
    have HB1 := Lib.hid (Blk.ext (Blk.new w _ _) hx1)
    have hxw1 : Ext w w1 := ((Ext.refl w).alloc _).trans hx1
    have hc1 := HB1.out.cell 0
    simp at hc1
    go_wp2_with fail
    refine (Plain_any A n c l _ (HL.out.ext hxw1) (by omega) hn).mono ?_
    rintro e w2 ⟨rfl, hx2⟩
    have hxw2 : Ext w w2 := hxw1.trans hx2
    have HB2 := Lib.hid (HB1.out.ext hx2)
    clear hc1
    have hc2 := HB2.out.cell 0
    simp at hc2
    rw [show (⟨(rowText l).toArray⟩ : ByteArray) = textOf l from rfl]
    generalize hs : textOf l = s at *
    have HS := Lib.hid hs
    clear hs
    have hs9 : s.size < 4294967281 := by rw [HSz.out]; exact hbt
    by_cases e0 : s.toList.isEmpty = true
    · have HFb : Hid (badS s = true) := by show _ = _; unfold badS; rw [e0]; rfl
      go_wp2_with fail
      go_ret
      exact ⟨ret_int (by rw [HF.out, if_pos HFb.out]), hxw2⟩
    · have e0' : s.toList.isEmpty = false := by simpa using e0
      have hpos : 0 < s.size := by
        rcases Nat.eq_zero_or_pos s.size with h | h
        · exfalso
          apply e0
          have : s.toList = [] := by
            rw [ByteArray.toList_eq]
            exact List.eq_nil_of_length_eq_zero (by simpa using h)
          rw [this]; rfl
        · exact h
      clear e0
      by_cases e1 : ((s[0].toNat : Int) == 32) = true
      · have HFb : Hid (badS s = true) := by show _ = _; unfold badS; rw [decide_eq_true ((head_eq s hpos).2 e1)]; simp
        go_wp2_with fail
        go_ret
        exact ⟨ret_int (by rw [HF.out, if_pos HFb.out]), hxw2⟩
      · have e1' : ((s[0].toNat : Int) == 32) = false := by simpa using e1
        have hd1 := Lib.hid (decide_eq_false (p := s.data.toList.head? = some 32) (fun h => e1 ((head_eq s hpos).1 h)))
        clear e1
        have hz0 : (0 : Int) ≤ (s.size : Int) - 1 := by omega
        have hz1 : (s.size : Int) - 1 < (s.size : Int) := by omega
        by_cases e2 : ((s[s.size - 1].toNat : Int) == 32) = true
        · have HFb : Hid (badS s = true) := by show _ = _; unfold badS; rw [decide_eq_true ((last_eq s hpos).2 e2)]; simp
          go_wp2_with fail
          go_ret
          exact ⟨ret_int (by rw [HF.out, if_pos HFb.out]), hxw2⟩
        · have e2' : ((s[s.size - 1].toNat : Int) == 32) = false := by simpa using e2
          have hd2 := Lib.hid (decide_eq_false (p := s.data.toList.getLast? = some 32) (fun h => e2 ((last_eq s hpos).1 h)))
          clear e2
          have HFb : Hid (badS s = Lib.contains s.data.toList [32, 32]) := by show _ = _; unfold badS; rw [e0', hd1.out, hd2.out]; simp
          go_wp2_with fail
          refine (Contains_any s _ (HEn.out.ext hxw2) hs9).mono ?_
          rintro e w3 ⟨rfl, rfl⟩
          cases hct : Lib.contains s.data.toList [32, 32]
          · have HCt := Lib.hid hct
            clear hct
            go_wp2_with fail
            refine (SLen_any A n c l _ (HEn.out.ext hxw2) (HL.out.ext hxw2) (by omega) hn).mono ?_
            rintro e w4 ⟨rfl, hx4⟩
            by_cases hw : 32 < rowLen l
            · go_wp2_with fail
              go_ret
              exact ⟨ret_int (by rw [HF.out, HFb.out, HCt.out, if_neg (by simp), if_pos hw]), hxw2.trans hx4⟩
            · go_wp2_with fail
              go_ret
              exact ⟨ret_int (by rw [HF.out, HFb.out, HCt.out, if_neg (by simp), if_neg (by omega)]), hxw2.trans hx4⟩
          · have HCt := Lib.hid hct
            clear hct
            go_wp2_with fail
            go_ret
            exact ⟨ret_int (by rw [HF.out, HFb.out, HCt.out]; rfl), hxw2⟩
  · have HF : Hid (rowErrE l = rowErr l) := by show _ = _; unfold rowErrE; rw [if_pos h1]
    have h1b : (rowErr l != 0) = true := by simp [h1]
    clear h1
    go_enter Tryd.func35, Tryd.ntmps35
    go_wp2_with fail
    refine (SCheck_any A n c l _ (HEn.out.ext ((Ext.refl w).alloc _)) (HL.out.ext ((Ext.refl w).alloc _)) HBd.out hn).mono ?_
    rintro e w1 ⟨rfl, hx1⟩
    go_wp2_with fail
    go_ret
    exact ⟨ret_int HF.out.symm, ((Ext.refl w).alloc _).trans hx1⟩

/-- is a span one of frames? -/
def spansB (i o : Int) : Bool := decide (0 ≤ i ∧ i < o ∧ o ≤ 5184000)
set_option maxHeartbeats 400000 in
theorem spans_any (i o : Int) (w : World) : Calls Tryd.prog 32 #[.agg #[.int .i64 i, .int .i64 o]] w fun e w' => e = .returned (.bool (spansB i o)) ∧ Ext w w' := by
  have HX := Lib.hid ((Ext.refl w).alloc (.cells #[.int .i64 i, .int .i64 o] 23))
  by_cases h1 : 0 ≤ i
  · by_cases h2 : i < o
    · go_enter Tryd.func32, Tryd.ntmps32
      go_wp2
      go_ret
      refine ⟨ret_bool ?_, HX.out⟩
      unfold spansB
      by_cases h3 : o ≤ 5184000
      · rw [decide_eq_true h3, decide_eq_true ⟨h1, h2, h3⟩]
      · rw [decide_eq_false h3, decide_eq_false (fun h => h3 h.2.2)]
    · go_enter Tryd.func32, Tryd.ntmps32
      go_wp2
      go_ret
      exact ⟨ret_bool (by unfold spansB; rw [decide_eq_false (by omega)]), HX.out⟩
  · go_enter Tryd.func32, Tryd.ntmps32
    go_wp2
    go_ret
    exact ⟨ret_bool (by unfold spansB; rw [decide_eq_false (by omega)]), HX.out⟩

/-- is a kind none? -/
def noKind (k : Int) : Bool := decide (k < 1 ∨ 4 < k)
def kindNames : Array Value := #[.string ⟨#[68, 73, 65, 76, 79, 71, 85, 69]⟩, .string ⟨#[83, 79, 85, 78, 68]⟩, .string ⟨#[84, 73, 84, 76, 69]⟩, .string ⟨#[77, 85, 83, 73, 67]⟩]
theorem kinds_any (w : World) : Calls Tryd.prog 47 #[] w fun e w' => e = .returned (.slice (some ⟨w.heap.size, 0, none⟩) 4 4) ∧ w' = w.alloc (.cells kindNames 9) := by
  go_enter Tryd.func47, Tryd.ntmps47
  go_wp2
  go_ret
  exact ⟨rfl, rfl⟩
/-- what KindName comes to: a text that is empty just if the kind is none -/
def KindPost (k : Int) (w : World) (e : Ending) (w' : World) : Prop := ∃ s : ByteArray, e = .returned (.string s) ∧ s.toList.isEmpty = noKind k ∧ Ext w w'
set_option maxHeartbeats 1000000 in
theorem KindName_any (k : Int) (w : World) : Calls Tryd.prog 33 #[.int .u8 k] w (KindPost k w) := by
  by_cases h1 : k < 1
  · go_enter Tryd.func33, Tryd.ntmps33
    go_wp2_with fail
    go_ret
    exact ⟨_, rfl, by unfold noKind; rw [decide_eq_true (by omega), ByteArray.toList_eq]; rfl, Ext.refl _⟩
  · by_cases h2 : 4 < k
    · go_enter Tryd.func33, Tryd.ntmps33
      go_wp2_with fail
      go_ret
      exact ⟨_, rfl, by unfold noKind; rw [decide_eq_true (by omega), ByteArray.toList_eq]; rfl, Ext.refl _⟩
    · have HN : Hid (noKind k = false) := by show _ = _; unfold noKind; rw [decide_eq_false (by omega)]
      have hk : k = 1 ∨ k = 2 ∨ k = 3 ∨ k = 4 := by omega
      rcases hk with rfl | rfl | rfl | rfl
      all_goals
        clear h1 h2
        go_enter Tryd.func33, Tryd.ntmps33
        go_wp2_with fail
        refine (kinds_any _).mono ?_
        rintro e w1 ⟨rfl, rfl⟩
        unfold kindNames
        go_wp2_with fail
        go_ret
        exact ⟨_, rfl, by rw [HN.out, ByteArray.toList_eq]; rfl, (Ext.refl w).alloc _⟩
end Go.Proofs.YtcgflkmkdpgchaaDoor
