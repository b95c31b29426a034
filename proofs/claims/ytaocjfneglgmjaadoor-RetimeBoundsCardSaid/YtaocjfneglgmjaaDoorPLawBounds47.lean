/- The walk of the law RetimeBounds. -/
import Derived.Test.YtaocjfneglgmjaaDoorPk14
namespace Go.Proofs.YtaocjfneglgmjaaDoor
set_option linter.unusedVariables false
set_option linter.unusedSimpArgs false
open Go.RowKit

/-- whether the worst is met, behind j numbers of a drift -/
def mJ (m0 : Bool) (N x y : Int) : Nat → Bool
  | 0 => m0
  | 1 => m0 || decide (dsz x = N)
  | _ + 2 => m0 || decide (dsz x = N) || decide (dsz y = N)
def BoRel (w : World) (n : Nat) (N : Int) (l : List Dri) (v i : Value) (wr : World) : Prop := ∃ k : Nat, k ≤ n ∧ i = .int .i64 k ∧ v = .bool (metB N (l.take k)) ∧ Ext w wr
def BiRel (w : World) (m0 : Bool) (N x y : Int) (v i : Value) (wr : World) : Prop := ∃ k : Nat, k ≤ 2 ∧ i = .int .i64 k ∧ v = .bool (mJ m0 N x y k) ∧ Ext w wr
theorem sz_eq {x N : Int} (hN : 0 ≤ N) (h : x ≠ -9223372036854775808) : decide (dsz x = N) = (decide (x = N) || decide (-x = N)) := by
  rw [← dfix_met hN]
  unfold dfix
  rw [if_neg h]
theorem sz_min {N : Int} (hN : 0 ≤ N) : decide (dsz (-9223372036854775808) = N) = decide ((9223372036854775807 : Int) = N) := by
  unfold dsz
  rw [if_pos rfl]

set_option maxRecDepth 100000 in
set_option maxHeartbeats 16000000 in
theorem RetimeBounds_any (A : Option Addr) (n c : Nat) (l : List Dri) (w : World) (hE : Env w) (hl : DrisAt w A n l) (hf : ∀ d ∈ l, d.Fits) :
    Calls Tryd.prog 7 #[.slice A n c] w fun en w' => en = .returned (.bool true) ∧ Ext w w' := by
  have HL := Lib.hid hl
  have HLn := Lib.hid hl.len
  have HF := Lib.hid hf
  have HE := Lib.hid hE
  have HMa := Lib.hid (met_all l)
  have HGe := Lib.hid (worst_ge l 0).2.1
  obtain ⟨hN0, hN1⟩ := worst_bd hf
  have HP := Lib.hid (fun w hl hn => PWorst47_any A n c l w hl hn hf)
  change Hid (∀ d ∈ l, dsz d.inn ≤ worst l ∧ dsz d.out ≤ worst l) at HGe
  generalize worst l = N at *
  clear hl hf hE
  go_enter Tryd.func7, Tryd.ntmps7
  go_wp2_with fail
  refine (awake47_any _ HE.out).mono ?_
  rintro en w1 ⟨rfl, hx1⟩
  have HX1 := Lib.hid hx1
  clear hx1
  by_cases h5 : 500 < n
  · have h5i : (500 : Int) < (n : Int) := by omega
    go_wp2_with fail
    go_ret
    exact ⟨rfl, HX1.out⟩
  have h5i : ¬ (500 : Int) < (n : Int) := by omega
  go_wp2_with fail
  refine (HP.out _ (HL.out.ext HX1.out) (by omega)).mono ?_
  rintro en w2 ⟨rfl, hx2⟩
  have HX2 := Lib.hid (HX1.out.trans hx2)
  have h00 : (N == 0) = decide (N = 0) := by by_cases h : N = 0 <;> simp [h]
  clear hx2 HX1
  go_wp2_with fail
  go_loopw [4, 20] (fun v i wr => BoRel w n N l v i wr) (fun _ i _ => n - (intOf i).toNat)
  case atStart => exact ⟨0, Nat.zero_le _, rfl, by simp [metB], HX2.out⟩
  case round =>
    obtain ⟨k, hk, rfl, rfl, hx⟩ := hrel
    have HX := Lib.hid hx
    by_cases hlt : k < n
    · obtain ⟨b, off, d, rfl, hd, c0, c1, c2⟩ := (HL.out.ext hx).at3 hlt
      have HMt := Lib.hid (met_take (n := N) hd)
      obtain ⟨⟨f1, f2⟩, f3, f4⟩ := HF.out d (List.mem_of_getElem? hd)
      obtain ⟨s1, s2⟩ := HGe.out d (List.mem_of_getElem? hd)
      obtain ⟨s3, s4⟩ := dfix_le s1
      obtain ⟨s5, s6⟩ := dfix_le s2
      clear hd hx
      obtain ⟨di, dx, dy⟩ := d
      dsimp only at *
      have HBd := Lib.hid (Blk.new wr 42 #[.int .i64 di, .int .i64 dx, .int .i64 dy])
      have hcd := fun o => HBd.out.cell o
      go_wp2_with fail
      clear hcd c0 c1 c2
      have HX3 := Lib.hid ((HX.out.alloc (.cells #[.int .i64 di, .int .i64 dx, .int .i64 dy] 42)).alloc (.cells #[.int .i64 dx, .int .i64 dy] 2))
      have HBs := Lib.hid (Blk.new' (w := wr.alloc (.cells #[.int .i64 di, .int .i64 dx, .int .i64 dy] 42)) (g := wr.heap.size + 1) (t := 2) (cs := #[.int .i64 dx, .int .i64 dy]) (by simp))
      generalize hw3 : (wr.alloc (.cells #[.int .i64 di, .int .i64 dx, .int .i64 dy] 42)).alloc (.cells #[.int .i64 dx, .int .i64 dy] 2) = w3 at *
      generalize hgq : wr.heap.size + 1 = gq at *
      go_loopw [4, 30] (fun v i wr => BiRel w3 (metB N (l.take k)) N dx dy v i wr) (fun _ i _ => 2 - (intOf i).toNat)
      case atStart => exact ⟨0, by omega, rfl, rfl, Ext.refl _⟩
      case round =>
        obtain ⟨j, hj, rfl, rfl, hx2⟩ := hrel
        have HBq := Lib.hid (HBs.out.ext hx2)
        have hjx : j = 0 ∨ j = 1 ∨ j = 2 := by omega
        rcases hjx with rfl | rfl | rfl
        · have hmn' : ∀ h : dx ≠ -9223372036854775808, ¬ N < dx ∧ ¬ N < -dx := fun h => by unfold dfix at s3 s4; rw [if_neg h] at s3 s4; exact ⟨by omega, by omega⟩
          generalize hmv : mJ (metB N (l.take k)) N dx dy 0 = mv
          have HNx : Hid (mJ (metB N (l.take k)) N dx dy 1 = (mv || decide (dsz dx = N))) := by show _ = _; rw [← hmv]; rfl
          clear hmv
          have hcl : wr.cell? ⟨gq, 0, none⟩ = some (.int .i64 dx) := HBq.out.cell 0
          cases mv
          case true =>
            have HT : Hid (mJ (metB N (l.take k)) N dx dy 1 = true) := by show _ = _; rw [HNx.out]; rfl
            by_cases hmn : dx = -9223372036854775808
            · have hb : (dx == -9223372036854775808) = true := by simpa using hmn
              have hge : ¬ N < 9223372036854775807 := by have hs := s1; rw [hmn] at hs; unfold dsz at hs; simp at hs; omega
              subst hmn
              go_wp2_with fail
              exact ⟨⟨1, by omega, by go_num, by rw [HT.out], hx2⟩, by simp [intOf]⟩
            · have hb : (dx == -9223372036854775808) = false := by simpa using hmn
              obtain ⟨t1, t2⟩ := hmn' hmn
              go_wp2_with fail
              exact ⟨⟨1, by omega, by go_num, by rw [HT.out], hx2⟩, by simp [intOf]⟩
          case false =>
            by_cases hmn : dx = -9223372036854775808
            · have hb : (dx == -9223372036854775808) = true := by simpa using hmn
              have hge : ¬ N < 9223372036854775807 := by have hs := s1; rw [hmn] at hs; unfold dsz at hs; simp at hs; omega
              have HT : Hid (mJ (metB N (l.take k)) N dx dy 1 = decide ((9223372036854775807 : Int) = N)) := by show _ = _; rw [HNx.out, hmn, sz_min hN0]; rfl
              have he : (9223372036854775807 : Int) = N := by omega
              have HV : Hid (mJ (metB N (l.take k)) N dx dy 1 = true) := by show _ = _; rw [HT.out, decide_eq_true he]
              subst hmn
              go_wp2_with fail
              exact ⟨⟨1, by omega, by go_num, by rw [HV.out], hx2⟩, by simp [intOf]⟩
            · have hb : (dx == -9223372036854775808) = false := by simpa using hmn
              obtain ⟨t1, t2⟩ := hmn' hmn
              have HT : Hid (mJ (metB N (l.take k)) N dx dy 1 = (decide (dx = N) || decide (-dx = N))) := by show _ = _; rw [HNx.out, sz_eq hN0 hmn]; rfl
              by_cases he : dx = N
              · have HV : Hid (mJ (metB N (l.take k)) N dx dy 1 = true) := by show _ = _; rw [HT.out, decide_eq_true he]; rfl
                have hbe : (dx == N) = true := by simpa using he
                clear he
                go_wp2_with fail
                exact ⟨⟨1, by omega, by go_num, by rw [HV.out], hx2⟩, by simp [intOf]⟩
              · by_cases he2 : -dx = N
                · have HV : Hid (mJ (metB N (l.take k)) N dx dy 1 = true) := by show _ = _; rw [HT.out, decide_eq_true he2, Bool.or_true]
                  have hbe : (dx == N) = false := by simpa using he
                  have hbe2 : (-dx == N) = true := by simpa using he2
                  clear he he2
                  go_wp2_with fail
                  exact ⟨⟨1, by omega, by go_num, by rw [HV.out], hx2⟩, by simp [intOf]⟩
                · have HV : Hid (mJ (metB N (l.take k)) N dx dy 1 = false) := by show _ = _; rw [HT.out, decide_eq_false he, decide_eq_false he2]; rfl
                  have hbe : (dx == N) = false := by simpa using he
                  have hbe2 : (-dx == N) = false := by simpa using he2
                  go_wp2_with fail
                  exact ⟨⟨1, by omega, by go_num, by rw [HV.out], hx2⟩, by simp [intOf]⟩
        · have hmn' : ∀ h : dy ≠ -9223372036854775808, ¬ N < dy ∧ ¬ N < -dy := fun h => by unfold dfix at s5 s6; rw [if_neg h] at s5 s6; exact ⟨by omega, by omega⟩
          generalize hmv : mJ (metB N (l.take k)) N dx dy 1 = mv
          have HNx : Hid (mJ (metB N (l.take k)) N dx dy 2 = (mv || decide (dsz dy = N))) := by show _ = _; rw [← hmv]; rfl
          clear hmv
          have hcl : wr.cell? ⟨gq, 1, none⟩ = some (.int .i64 dy) := HBq.out.cell 1
          cases mv
          case true =>
            have HT : Hid (mJ (metB N (l.take k)) N dx dy 2 = true) := by show _ = _; rw [HNx.out]; rfl
            by_cases hmn : dy = -9223372036854775808
            · have hb : (dy == -9223372036854775808) = true := by simpa using hmn
              have hge : ¬ N < 9223372036854775807 := by have hs := s2; rw [hmn] at hs; unfold dsz at hs; simp at hs; omega
              subst hmn
              go_wp2_with fail
              exact ⟨⟨2, by omega, by go_num, by rw [HT.out], hx2⟩, by simp [intOf]⟩
            · have hb : (dy == -9223372036854775808) = false := by simpa using hmn
              obtain ⟨t1, t2⟩ := hmn' hmn
              go_wp2_with fail
              exact ⟨⟨2, by omega, by go_num, by rw [HT.out], hx2⟩, by simp [intOf]⟩
          case false =>
            by_cases hmn : dy = -9223372036854775808
            · have hb : (dy == -9223372036854775808) = true := by simpa using hmn
              have hge : ¬ N < 9223372036854775807 := by have hs := s2; rw [hmn] at hs; unfold dsz at hs; simp at hs; omega
              have HT : Hid (mJ (metB N (l.take k)) N dx dy 2 = decide ((9223372036854775807 : Int) = N)) := by show _ = _; rw [HNx.out, hmn, sz_min hN0]; rfl
              have he : (9223372036854775807 : Int) = N := by omega
              have HV : Hid (mJ (metB N (l.take k)) N dx dy 2 = true) := by show _ = _; rw [HT.out, decide_eq_true he]
              subst hmn
              go_wp2_with fail
              exact ⟨⟨2, by omega, by go_num, by rw [HV.out], hx2⟩, by simp [intOf]⟩
            · have hb : (dy == -9223372036854775808) = false := by simpa using hmn
              obtain ⟨t1, t2⟩ := hmn' hmn
              have HT : Hid (mJ (metB N (l.take k)) N dx dy 2 = (decide (dy = N) || decide (-dy = N))) := by show _ = _; rw [HNx.out, sz_eq hN0 hmn]; rfl
              by_cases he : dy = N
              · have HV : Hid (mJ (metB N (l.take k)) N dx dy 2 = true) := by show _ = _; rw [HT.out, decide_eq_true he]; rfl
                have hbe : (dy == N) = true := by simpa using he
                clear he
                go_wp2_with fail
                exact ⟨⟨2, by omega, by go_num, by rw [HV.out], hx2⟩, by simp [intOf]⟩
              · by_cases he2 : -dy = N
                · have HV : Hid (mJ (metB N (l.take k)) N dx dy 2 = true) := by show _ = _; rw [HT.out, decide_eq_true he2, Bool.or_true]
                  have hbe : (dy == N) = false := by simpa using he
                  have hbe2 : (-dy == N) = true := by simpa using he2
                  clear he he2
                  go_wp2_with fail
                  exact ⟨⟨2, by omega, by go_num, by rw [HV.out], hx2⟩, by simp [intOf]⟩
                · have HV : Hid (mJ (metB N (l.take k)) N dx dy 2 = false) := by show _ = _; rw [HT.out, decide_eq_false he, decide_eq_false he2]; rfl
                  have hbe : (dy == N) = false := by simpa using he
                  have hbe2 : (-dy == N) = false := by simpa using he2
                  go_wp2_with fail
                  exact ⟨⟨2, by omega, by go_num, by rw [HV.out], hx2⟩, by simp [intOf]⟩
        · go_wp2_with fail
          exact ⟨⟨k + 1, by omega, by go_num, by rw [HMt.out]; rfl, HX3.out.trans hx2⟩, by simp [intOf]; omega⟩
    · have hkn : k = n := by omega
      subst hkn
      have htk : l.take k = l := List.take_of_length_le (by have := HLn.out; omega)
      rw [htk, HMa.out]
      go_wp2_with fail
      go_ret
      exact ⟨rfl, hx⟩
end Go.Proofs.YtaocjfneglgmjaaDoor
