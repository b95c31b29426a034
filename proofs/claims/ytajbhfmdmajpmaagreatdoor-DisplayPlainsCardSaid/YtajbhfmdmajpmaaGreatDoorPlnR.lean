/- The walk of the reference's Plain. -/
import Derived.Test.YtajbhfmdmajpmaaGreatDoorPlnP
import Derived.Test.YtajbhfmdmajpmaaGreatDoorPk12
namespace Go.Proofs.YtajbhfmdmajpmaaGreatDoor
set_option linter.unusedVariables false
set_option linter.unusedSimpArgs false
open Go.RowKit

def PrRel (w : World) (l : List Gl) (vs vk vr : Value) (wr : World) : Prop :=
  ∃ r : Nat, r ≤ 15 ∧ vr = .int .i64 r ∧ vs = .string ⟨(txtTo l (r * 32)).toArray⟩ ∧ vk = .int .i64 (ptr l (r * 32)) ∧ Ext w wr
def PcRel (w : World) (l : List Gl) (r : Nat) (vs vk vc : Value) (wr : World) : Prop :=
  ∃ c : Nat, c ≤ 32 ∧ vc = .int .i64 c ∧ vs = .string ⟨(txtTo l (r * 32) ++ rowTxt l r c).toArray⟩ ∧ vk = .int .i64 (ptr l (r * 32 + c)) ∧ Ext w wr
theorem ba_appendP (x : List UInt8) (s : ByteArray) : (⟨x.toArray⟩ : ByteArray) ++ s = ⟨(x ++ s.data.toList).toArray⟩ := by
  apply ByteArray.ext
  simp [ByteArray.data_append]
theorem enc_size (r : Int) : (Utf8.encode r).size ≤ 4 := by
  have h := (enc_len r).2
  rw [← encode_enc] at h
  simpa using h
theorem str_add (xs ys : List UInt8) (r : Int) (h : ys = xs ++ Lib.encodeRune r) : Value.string ((⟨xs.toArray⟩ : ByteArray) ++ Utf8.encode r) = .string ⟨ys.toArray⟩ := by
  rw [ba_appendP, encode_enc, h]
set_option maxRecDepth 100000 in
set_option maxHeartbeats 8000000 in
theorem R32Plain_any (A : Option Addr) (n c : Nat) (l : List Gl) (w : World) (hl : GlsAt w A n l) (hn : n ≤ 1000000) :
    Calls Tryz.prog 32 #[.slice A n c] w fun en w' => en = .returned (.tuple #[.string (plainT l), .int .i64 (glsErr l)]) ∧ Ext w w' := by
  have HCk := Lib.hid (R32Check_any A n c l w hl hn)
  have HL := Lib.hid hl
  have HLn := Lib.hid hl.len
  have V1 : Hid (glsErr l ≠ 0 → plainT l = ⟨#[]⟩) := fun h => by unfold plainT; rw [if_neg h]
  have V2 : Hid (glsErr l = 0 → plainT l = txtOf l) := fun h => by unfold plainT; rw [if_pos h]
  clear hl
  go_enter Tryz.func32, Tryz.ntmps32
  go_wp2_with fail
  refine HCk.out.mono ?_
  rintro en' w1 ⟨rfl, hx1⟩
  have HX1 := Lib.hid hx1
  clear hx1 HCk
  by_cases he : glsErr l = 0
  case neg =>
    have hne : (glsErr l != 0) = true := by simpa using he
    have HN := Lib.hid (V1.out he)
    clear he
    go_wp2_with fail
    go_ret2
    exact ⟨by rw [HN.out]; rfl, HX1.out⟩
  obtain ⟨hgood, hasc, hl480⟩ := glsErr_inv he
  have HGood := Lib.hid hgood
  have HAsc := Lib.hid hasc
  have HV := Lib.hid (V2.out he)
  have HOk := Lib.hid he
  rw [he]
  clear he hgood hasc V1 V2
  have hn480 : n ≤ 480 := by rw [← HLn.out]; exact hl480
  clear hl480
  go_wp2_with fail
  go_loopw [5, 6, 7] (fun vs vk vr wr => PrRel w l vs vk vr wr) (fun _ _ r _ => 15 - (intOf r).toNat)
  case atStart => exact ⟨0, by omega, rfl, rfl, by have h : ptr l (0 * 32) = 0 := (by have := HAsc.out; obtain ⟨A', B', h1, h2, h3, -⟩ := ptr_split this 0; cases A' with | nil => simpa using h2.symm | cons x A' => (have h4 := h3 x (by simp); have h5 := Gl.ok_cell ((HGood.out x (by rw [h1]; simp)).1); omega)); rw [h]; rfl, HX1.out⟩
  case round =>
    obtain ⟨r, hr, rfl, rfl, rfl, hx⟩ := hrel
    have HX := Lib.hid hx
    clear hx
    by_cases hlt : r < 15
    case neg =>
      have h15 : r = 15 := by omega
      subst h15
      go_wp2_with fail
      go_ret2
      exact ⟨by rw [HV.out, HOk.out]; rfl, HX.out⟩
    have HRe := Lib.hid (txt_rowend l r)
    have HP1 : Hid (ptr l (r * 32 + 32) = ptr l ((r + 1) * 32)) := by show _ = _; congr 1; omega
    generalize hK : ptr l (r * 32) = kr at *
    have HK := Lib.hid hK
    clear hK
    generalize hT : txtTo l (r * 32) = tr at *
    have HT := Lib.hid hT
    have htl : tr.length ≤ 2400 := by have := txt_len l (r * 32); rw [hT] at this; omega
    clear hT
    go_wp2_with fail
    go_loopw [5, 6, 8] (fun vs vk vc wr => PcRel w l r vs vk vc wr) (fun _ _ r _ => 32 - (intOf r).toNat)
    case atStart => exact ⟨0, by omega, rfl, by rw [HT.out]; simp [rowTxt], by rw [Nat.add_zero, HK.out], HX.out⟩
    case round =>
      obtain ⟨c, hc, rfl, rfl, rfl, hx⟩ := hrel
      have HXc := Lib.hid hx
      clear hx
      by_cases hcl : c < 32
      case neg =>
        have h32 : c = 32 := by omega
        subst h32
        have hrl := rowTxt_len l r 32
        rw [HP1.out, HT.out]
        obtain ⟨xs, hxs⟩ : ∃ xs, xs = tr ++ rowTxt l r 32 := ⟨_, rfl⟩
        have hxl : xs.length ≤ 4000 := by rw [hxs, List.length_append]; omega
        rw [← hxs] at HRe ⊢
        have hcat : ¬ 9223372036854775807 < xs.length + 1 := by omega
        clear hxs hrl
        go_wp2_with fail
        refine ⟨⟨r + 1, by omega, by go_num, ?_, rfl, HXc.out⟩, by simp [intOf]; omega⟩
        rw [HRe.out]
        exact congrArg Value.string (ba_appendP xs ⟨#[10]⟩)
      have HHere := Lib.hid (fun g h1 h2 => @at_here l HAsc.out (r * 32 + c) g h1 h2)
      have HNot := Lib.hid (fun h => @at_not l HAsc.out (r * 32 + c) h)
      have HRt := Lib.hid (rowTxt_succ l r c)
      have hrl := rowTxt_len l r c
      have HPle := Lib.hid (ptr_le l (r * 32 + c))
      rw [HT.out]
      generalize hP : ptr l (r * 32 + c) = p at *
      clear hP
      have hpn0 : p ≤ n := by have h1 := HPle.out; have h2 := HLn.out; omega
      have hsz4 := enc_size (charAt l (r * 32 + c))
      obtain ⟨xs, hxs⟩ : ∃ xs, xs = tr ++ rowTxt l r c := ⟨_, rfl⟩
      have hxl : xs.length ≤ 4000 := by rw [hxs, List.length_append]; omega
      have HXs : Hid (txtTo l (r * 32) ++ rowTxt l r (c + 1) = xs ++ Lib.encodeRune (charAt l (r * 32 + c))) := by show _ = _; rw [HRt.out, HT.out, hxs, List.append_assoc]
      have HPs : Hid (r * 32 + (c + 1) = r * 32 + c + 1) := by show _ = _; omega
      rw [← hxs]
      clear hxs hrl HRt HPle
      by_cases hpn : p < n
      · obtain ⟨gb, goff, g, rfl, hg, c0, c1, c2, -, -, -⟩ := (HL.out.ext HXc.out).at6 hpn
        have hgok := (HGood.out g (List.mem_of_getElem? hg)).1
        by_cases hgr : g.row = r
        · by_cases hgc : g.col = c
          · have e1 : (g.row == (r : Int)) = true := by simpa using hgr
            have e2 : (g.col == (c : Int)) = true := by simpa using hgc
            obtain ⟨ha, hb⟩ := HHere.out g hg (by unfold Gl.cell; omega)
            have HB := Lib.hid hb
            rw [ha] at hsz4 HXs
            have hcat : ¬ 9223372036854775807 < xs.length + (Utf8.encode g.ch).size := by omega
            clear hgr hgc ha hb hgok hg HHere HNot hsz4
            go_wp2_with fail
            refine ⟨⟨c + 1, by omega, by go_num, ?_, ?_, HXc.out⟩, by simp [intOf]; omega⟩
            · exact str_add _ _ _ HXs.out
            · rw [HPs.out, HB.out]; go_num
          · have e1 : (g.row == (r : Int)) = true := by simpa using hgr
            have e2 : (g.col == (c : Int)) = false := by simpa using hgc
            obtain ⟨ha, hb⟩ := HNot.out (fun y hy => by rw [hg] at hy; cases hy; unfold Gl.cell; omega)
            have HB := Lib.hid hb
            rw [ha] at hsz4 HXs
            have hcat : ¬ 9223372036854775807 < xs.length + (Utf8.encode 32).size := by omega
            clear hgr hgc ha hb hgok hg HHere HNot hsz4
            go_wp2_with fail
            refine ⟨⟨c + 1, by omega, by go_num, ?_, ?_, HXc.out⟩, by simp [intOf]; omega⟩
            · exact str_add _ _ _ HXs.out
            · rw [HPs.out, HB.out]
        · have e1 : (g.row == (r : Int)) = false := by simpa using hgr
          obtain ⟨ha, hb⟩ := HNot.out (fun y hy => by rw [hg] at hy; cases hy; obtain ⟨a1, a2, a3, a4, -⟩ := hgok; unfold Gl.cell; omega)
          have HB := Lib.hid hb
          rw [ha] at hsz4 HXs
          have hcat : ¬ 9223372036854775807 < xs.length + (Utf8.encode 32).size := by omega
          clear hgr ha hb hgok hg HHere HNot hsz4
          go_wp2_with fail
          refine ⟨⟨c + 1, by omega, by go_num, ?_, ?_, HXc.out⟩, by simp [intOf]; omega⟩
          · exact str_add _ _ _ HXs.out
          · rw [HPs.out, HB.out]
      · obtain ⟨ha, hb⟩ := HNot.out (fun y hy => by rw [List.getElem?_eq_none (by have := HLn.out; omega)] at hy; cases hy)
        have HB := Lib.hid hb
        rw [ha] at hsz4 HXs
        have hcat : ¬ 9223372036854775807 < xs.length + (Utf8.encode 32).size := by omega
        clear ha hb HHere HNot hsz4
        go_wp2_with fail
        refine ⟨⟨c + 1, by omega, by go_num, ?_, ?_, HXc.out⟩, by simp [intOf]; omega⟩
        · exact str_add _ _ _ HXs.out
        · rw [HPs.out, HB.out]
end Go.Proofs.YtajbhfmdmajpmaaGreatDoor
