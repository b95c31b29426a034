/- The walks of the reference's Move and of the law CommentMoves. -/
import Derived.Test.YtbfaghgjbipilaaDoorPk14
import Derived.Test.YtbfaghgjbipilaaDoorPk15
import Derived.Test.YtbfaghgjbipilaaDoorPk16
import Derived.Laws.IdiomStrings
namespace Go.Proofs.YtbfaghgjbipilaaDoor
set_option linter.unusedVariables false
set_option linter.unusedSimpArgs false
open Go.RowKit

theorem runesFrom_size (s : ByteArray) : ∀ (f pos : Nat) (acc : Array Value), (Conv.runesFrom s f pos acc).size = acc.size + (runesAt s f pos).length
  | 0, _, acc => by simp [Conv.runesFrom, runesAt]
  | f + 1, pos, acc => by
    unfold Conv.runesFrom runesAt
    split
    · rw [runesFrom_size s f]; simp; omega
    · simp
theorem runes_size (s : ByteArray) : (Conv.runesFrom s s.size 0 #[]).size = (runes s 0).length := by
  rw [runesFrom_size]; simp [runes]
/-- []rune(s): a slice with as many elements as s has characters -/
theorem run_runes_any {P : Program} (src dst e : TypeId) (s : ByteArray) (w : World) (hs : P.underlying src = some .string) (hd : P.underlying dst = some (.slice e)) (he : P.underlying e = some (.int .i32)) (h : s.size ≤ 70368744177664) :
    (convert src dst (.string s)).run P w = .ok (.slice (some ⟨w.heap.size, 0, none⟩) (runes s 0).length (grownCap w (runes s 0).length 0 e))
      (w.drew.alloc (.cells (Conv.runesFrom s s.size 0 #[] ++ Array.replicate (grownCap w (runes s 0).length 0 e - (runes s 0).length) (.int .i32 0)) e)) := by
  have hl := runes_len s
  have := run_runes_of_string (P := P) w src dst e s hs hd he (by rw [runes_size]; omega)
  rw [runes_size] at this
  exact this
theorem run_runes_ex {P : Program} (src dst e : TypeId) (s : ByteArray) (hs : P.underlying src = some .string) (hd : P.underlying dst = some (.slice e)) (he : P.underlying e = some (.int .i32)) (h : s.size ≤ 70368744177664) :
    ∃ (c : World → Nat) (o : World → Obj), ∀ w, (convert src dst (.string s)).run P w = .ok (.slice (some ⟨w.heap.size, 0, none⟩) (runes s 0).length (c w)) (w.drew.alloc (o w)) :=
  ⟨_, _, fun w => run_runes_any src dst e s w hs hd he h⟩

set_option maxRecDepth 100000 in
set_option maxHeartbeats 1000000 in
theorem R14Move_any (before after : ByteArray) (i : Int) (e : Bool) (w : World) (hb : before.size ≤ 35184372088831) (ha : after.size ≤ 35184372088831) :
    Calls Tryd.prog 26 #[.string before, .string after, .int .i64 i, .bool e] w fun en w' => en = .returned (.int .i64 (Mv.move (runes before 0) (runes after 0) i e)) ∧ Ext w w' := by
  have HC := Lib.hid (fun w' => R12Common_any before after w' hb ha)
  have hlb := runes_len before
  have hla := runes_len after
  have hen := Mv.ends (runes before 0) (runes after 0)
  have HM : Hid (Mv.move (runes before 0) (runes after 0) i e = if e = true then Mv.to_ (runes before 0).length (runes after 0).length (Mv.pre (runes before 0) (runes after 0)) (Mv.suf (runes before 0) (runes after 0) (Mv.pre (runes before 0) (runes after 0))) (min (max i 0) ((runes before 0).length : Int)) else Mv.from_ (runes before 0).length (runes after 0).length (Mv.pre (runes before 0) (runes after 0)) (Mv.suf (runes before 0) (runes after 0) (Mv.pre (runes before 0) (runes after 0))) (min (max i 0) ((runes before 0).length : Int))) := rfl
  generalize Mv.suf (runes before 0) (runes after 0) (Mv.pre (runes before 0) (runes after 0)) = q at *
  generalize Mv.pre (runes before 0) (runes after 0) = p at *
  generalize Mv.move (runes before 0) (runes after 0) i e = r at *
  generalize (runes before 0).length = n at *
  generalize (runes after 0).length = m at *
  have ht0 : 0 ≤ min (max i 0) (n : Int) := by omega
  have ht1 : min (max i 0) (n : Int) ≤ (n : Int) := by omega
  have HT := Lib.hid (fun w' => R12MoveTo_any n m p q (min (max i 0) (n : Int)) w' (by omega) (by omega) (by omega) (by omega) (by omega) (by omega))
  have HF := Lib.hid (fun w' => R12MoveFrom_any n m p q (min (max i 0) (n : Int)) w' (by omega) (by omega) (by omega) (by omega) (by omega) (by omega))
  go_enter Tryd.func26, Tryd.ntmps26
  go_wp2_with fail
  refine (HC.out _).mono ?_
  rintro en w1 ⟨rfl, hx1⟩
  cases e
  · go_wp2_with fail
    refine (HF.out _).mono ?_
    rintro en w2 ⟨rfl, hx2⟩
    go_wp2_with fail
    go_ret
    exact ⟨ret_int (by rw [HM.out]; rfl), hx1.trans hx2⟩
  · go_wp2_with fail
    refine (HT.out _).mono ?_
    rintro en w2 ⟨rfl, hx2⟩
    go_wp2_with fail
    go_ret
    exact ⟨ret_int (by rw [HM.out]; rfl), hx1.trans hx2⟩

def CmRel (W : World) (_ : Nat) (v : Value) (wr : World) : Prop := ∃ j : Nat, j ≤ 2 ∧ v = .int .i64 j ∧ Ext W wr
set_option maxRecDepth 100000 in
set_option maxHeartbeats 8000000 in
theorem CommentMoves_any (before after : ByteArray) (x y : Int) (w : World) (hE : Env w) (hb : before.size ≤ 1048576) (ha : after.size ≤ 1048576) (hx : IW x) (hy : IW y) :
    Calls Tryd.prog 6 #[.string before, .string after, .agg #[.int .i64 x, .int .i64 y]] w fun en w' => en = .returned (.bool true) ∧ Ext w w' := by
  have HX : Hid (Ext w (w.alloc (.cells #[.int .i64 x, .int .i64 y] 71))) := (Ext.refl w).alloc _
  have HB : Hid (Blk (w.alloc (.cells #[.int .i64 x, .int .i64 y] 71)) w.heap.size 71 #[.int .i64 x, .int .i64 y]) := Blk.new w _ _
  have HEn := Lib.hid hE
  obtain ⟨fb, ob, hcb⟩ := run_runes_ex (P := Tryd.prog) 9 28 21 before Tryd.underlying9 Tryd.underlying28 Tryd.underlying21 (by omega)
  obtain ⟨fa, oa, hca⟩ := run_runes_ex (P := Tryd.prog) 9 28 21 after Tryd.underlying9 Tryd.underlying28 Tryd.underlying21 (by omega)
  have hlb := runes_len before
  have hla := runes_len after
  have HM1 := Lib.hid (fun e w' => CMove_any before after (min x y) e w' (by omega) (by omega))
  have HM2 := Lib.hid (fun e w' => CMove_any before after (max x y) e w' (by omega) (by omega))
  have HR1 := Lib.hid (fun e w' => R14Move_any before after (min x y) e w' (by omega) (by omega))
  have HR2 := Lib.hid (fun e w' => R14Move_any before after (max x y) e w' (by omega) (by omega))
  have HM3 := Lib.hid (fun e w' => CMove_any before before (min x y) e w' (by omega) (by omega))
  have HBd := Lib.hid (fun (i : Int) e => Mv.move_bd (runes before 0) (runes after 0) i e)
  have HMo := Lib.hid (fun e => Mv.move_mono (runes before 0) (runes after 0) (i := min x y) (k := max x y) (by omega) e)
  have HSf := Lib.hid (fun e => Mv.move_self (runes before 0) (min x y) e)
  clear hE
  generalize hmn : min x y = i at *
  generalize hmx : max x y = k at *
  have HMn := Lib.hid hmn
  have HMx := Lib.hid hmx
  clear hmn hmx
  generalize hn : (runes before 0).length = n at *
  generalize hm : (runes after 0).length = m at *
  have HNn := Lib.hid hn
  have HMm := Lib.hid hm
  clear hn hm
  go_enter Tryd.func6, Tryd.ntmps6
  go_wp2_with fail
  refine (awake14_any _ (HEn.out.ext HX.out)).mono ?_
  rintro en w_1 ⟨rfl, hx_2⟩
  have HX_3 := Lib.hid (HX.out.trans hx_2)
  have HB_4 := Lib.hid (HB.out.ext hx_2)
  clear hx_2 HX HB
  go_wp2_with fail
  have hr_5 := fun (x : EW w_1) (o : Nat) => (HB_4.out.ext x.ext).cell o
  refine wp_region_ew w_1 (Ext.refl _) (by kernel_rfl) (by kernel_rfl) ?_
  repeat (go_big_quiet_step ((fail)))
  refine wpQuiet_nil ?_
  rintro w_6 ⟨⟨_, hx_7⟩, rfl⟩
  try dsimp only
  clear hr_5
  have HX_8 := Lib.hid (HX_3.out.trans hx_7)
  have HB_9 := Lib.hid (HB_4.out.ext hx_7)
  clear hx_7 HX_3 HB_4
  simp only [HMn.out, HMx.out]
  go_upto_block 0 with (fail)
  have HB_10 := Lib.hid (Blk.new w_6 4 #[.bool false, .bool true])
  have ha_11 := (Ext.refl w_6).alloc (.cells #[.bool false, .bool true] 4)
  have HX_12 := Lib.hid (HX_8.out.trans ha_11)
  have HB_13 := Lib.hid (HB_9.out.ext ha_11)
  clear ha_11 HX_8 HB_9
  go_wp2_with fail
  go_loopw [28] (fun v wr => CmRel (w_6.alloc (.cells #[.bool false, .bool true] 4)) 0 v wr) (fun v _ => 2 - (intOf v).toNat)
  case atStart => exact ⟨0, by omega, rfl, Ext.refl _⟩
  case round =>
    obtain ⟨j, hj, rfl, hx⟩ := hrel
    have HXj := Lib.hid hx
    have HBj := Lib.hid (HB_10.out.ext hx)
    have HXw := Lib.hid (HX_12.out.trans hx)
    have hcj := HBj.out.cell
    clear hx
    have hj3 : j = 0 ∨ j = 1 ∨ j = 2 := by omega
    rcases hj3 with rfl | rfl | rfl
    · have hv := HMo.out false
      have hb1 := HBd.out i false
      have hb2 := HBd.out k false
      have hs := HSf.out false
      have HA1 := Lib.hid (HM1.out false)
      have HA2 := Lib.hid (HM2.out false)
      have HA3 := Lib.hid (HR1.out false)
      have HA4 := Lib.hid (HR2.out false)
      have HA5 := Lib.hid (HM3.out false)
      rw [hs] at HA5
      unfold Mv.clamp at HA5
      clear hs
      generalize Mv.move (runes before 0) (runes after 0) i false = a at *
      generalize Mv.move (runes before 0) (runes after 0) k false = b at *
      have hab : a ≤ b := hv
      have ha0 : 0 ≤ a := hb1.1
      have hb0 : b ≤ (m : Int) := hb2.2
      have hab' : ¬ b < a := by omega
      have ha0' : ¬ a < 0 := by omega
      have hb0' : ¬ (m : Int) < b := by omega
      clear hv hb1 hb2
      have HX0 := Lib.hid (Ext.refl wr)
      go_wp2_with fail
      refine (HA1.out _).mono ?_
      rintro en w_14 ⟨rfl, hx_15⟩
      have HX_16 := Lib.hid (HX0.out.trans hx_15)
      clear hx_15 HX0
      go_wp2_with fail
      refine (HA2.out _).mono ?_
      rintro en w_17 ⟨rfl, hx_18⟩
      have HX_19 := Lib.hid (HX_16.out.trans hx_18)
      clear hx_18 HX_16
      go_wp2_with fail
      refine (HA3.out _).mono ?_
      rintro en w_20 ⟨rfl, hx_21⟩
      have HX_22 := Lib.hid (HX_19.out.trans hx_21)
      clear hx_21 HX_19
      go_wp2_with fail
      refine (HA4.out _).mono ?_
      rintro en w_23 ⟨rfl, hx_24⟩
      have HX_25 := Lib.hid (HX_22.out.trans hx_24)
      clear hx_24 HX_22
      go_wp2_with fail
      refine (HA5.out _).mono ?_
      rintro en w9 ⟨rfl, hx9⟩
      go_wp2_with fail
      have hl9 : Ext wr w9 := by
        refine Ext.trans ?_ hx9
        repeat (first | exact HX_25.out | apply Ext.drew | apply Ext.alloc)
      exact ⟨⟨1, by omega, rfl, HXj.out.trans hl9⟩, by simp [intOf]⟩
    · have hv := HMo.out true
      have hb1 := HBd.out i true
      have hb2 := HBd.out k true
      have hs := HSf.out true
      have HA1 := Lib.hid (HM1.out true)
      have HA2 := Lib.hid (HM2.out true)
      have HA3 := Lib.hid (HR1.out true)
      have HA4 := Lib.hid (HR2.out true)
      have HA5 := Lib.hid (HM3.out true)
      rw [hs] at HA5
      unfold Mv.clamp at HA5
      clear hs
      generalize Mv.move (runes before 0) (runes after 0) i true = a at *
      generalize Mv.move (runes before 0) (runes after 0) k true = b at *
      have hab : a ≤ b := hv
      have ha0 : 0 ≤ a := hb1.1
      have hb0 : b ≤ (m : Int) := hb2.2
      have hab' : ¬ b < a := by omega
      have ha0' : ¬ a < 0 := by omega
      have hb0' : ¬ (m : Int) < b := by omega
      clear hv hb1 hb2
      have HX0 := Lib.hid (Ext.refl wr)
      go_wp2_with fail
      refine (HA1.out _).mono ?_
      rintro en w_26 ⟨rfl, hx_27⟩
      have HX_28 := Lib.hid (HX0.out.trans hx_27)
      clear hx_27 HX0
      go_wp2_with fail
      refine (HA2.out _).mono ?_
      rintro en w_29 ⟨rfl, hx_30⟩
      have HX_31 := Lib.hid (HX_28.out.trans hx_30)
      clear hx_30 HX_28
      go_wp2_with fail
      refine (HA3.out _).mono ?_
      rintro en w_32 ⟨rfl, hx_33⟩
      have HX_34 := Lib.hid (HX_31.out.trans hx_33)
      clear hx_33 HX_31
      go_wp2_with fail
      refine (HA4.out _).mono ?_
      rintro en w_35 ⟨rfl, hx_36⟩
      have HX_37 := Lib.hid (HX_34.out.trans hx_36)
      clear hx_36 HX_34
      go_wp2_with fail
      refine (HA5.out _).mono ?_
      rintro en w9 ⟨rfl, hx9⟩
      go_wp2_with fail
      have hl9 : Ext wr w9 := by
        refine Ext.trans ?_ hx9
        repeat (first | exact HX_37.out | apply Ext.drew | apply Ext.alloc)
      exact ⟨⟨2, by omega, rfl, HXj.out.trans hl9⟩, by simp [intOf]⟩
    go_wp2_with fail
    go_ret
    exact ⟨rfl, HXw.out⟩
end Go.Proofs.YtbfaghgjbipilaaDoor
