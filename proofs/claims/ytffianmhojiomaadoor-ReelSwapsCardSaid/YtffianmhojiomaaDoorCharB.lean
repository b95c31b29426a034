/- The walks of package charset (Valid, Len). -/
import Derived.Test.YtffianmhojiomaaDoorChar
import Derived.Test.YtffianmhojiomaaDoorShelf
import Derived.Lib.OthersKept
namespace Go.Proofs.YtffianmhojiomaaDoor
set_option linter.unusedVariables false
set_option linter.unusedSimpArgs false
open Go.RowKit

/-- a string of characters of the repertoire -/
def vld (s : ByteArray) : Bool := Lib.validD s.data.toList && (runes s 0).all fun r => decide (0 ≤ idx r)

theorem Ext.iterAt {w w1 : World} (h : Ext w w1) {k : Nat} (hk : w.heap.size ≤ k) (s : ByteArray) (p : Nat) : Ext w (w1.iterAt k s p) := Lib.below_iterAt h hk s p
theorem Ext.obj {w w1 : World} {k : Nat} {o : Obj} (h : Ext w w1) (hk : w.heap[k]? = some o) : w1.heap[k]? = some o :=
  (h.block k (Array.getElem?_eq_some_iff.1 hk).1).trans hk

theorem ValidString_any (s : ByteArray) (w : World) (hE : Env w) (hs : s.size ≤ 9223372036854775807) :
    Calls Tryd.prog 50 #[.string s] w fun e w' => e = .returned (.bool (Lib.validD s.data.toList)) ∧ Ext w w' :=
  Any.utf8_ValidString Tryd.laysValid s w hs hE.1

def ValidRel (s : ByteArray) (w : World) (g : Nat) (wr : World) : Prop :=
  ∃ pos : Nat, wr.heap[g]? = some (.stringIter s pos) ∧ Ext w wr ∧ ((runes s 0).all fun r => decide (0 ≤ idx r)) = ((runes s pos).all fun r => decide (0 ≤ idx r))

set_option maxHeartbeats 400000 in
theorem Valid_any (s : ByteArray) (w : World) (hE : Env w) (hs : s.size ≤ 9223372036854775807) :
    Calls Tryd.prog 36 #[.string s] w fun e w' => e = .returned (.bool (vld s)) ∧ Ext w w' := by
  cases hv : Lib.validD s.data.toList
  · have HV := Lib.hid hv
    have HF : Hid (vld s = false) := by unfold vld; rw [hv]; rfl
    go_enter Tryd.func36, Tryd.ntmps36
    go_wp2_with fail
    refine (ValidString_any s w hE hs).mono ?_
    rintro e w1 ⟨rfl, h1⟩
    rw [HV.out]
    go_wp2_with fail
    go_ret
    exact ⟨by rw [HF.out]; rfl, h1⟩
  · have HV := Lib.hid hv
    have HF : Hid (vld s = ((runes s 0).all fun r => decide (0 ≤ idx r))) := by unfold vld; rw [hv]; rfl
    clear hv
    go_enter Tryd.func36, Tryd.ntmps36
    go_wp2_with fail
    refine (ValidString_any s w hE hs).mono ?_
    rintro e w1 ⟨rfl, h1⟩
    rw [HV.out]
    go_wp2_with fail
    go_loopw [] (fun wr => ValidRel s w w1.heap.size wr) (fun wr => s.size - wr.iterPos w1.heap.size)
    case atStart => exact ⟨0, w1.iter_heap s 0, h1.iter s 0, rfl⟩
    case round =>
      obtain ⟨pos, hk, hx, hp⟩ := hrel
      have HP := Lib.hid hp
      have HK := Lib.hid hk
      clear hp
      by_cases hlt : pos < s.size
      · have hn := fun ty => Lib.run_next_any_at (P := Tryd.prog) wr _ s pos ty hk hlt
        have hstep := Lib.hid (runes_step s pos hlt)
        have hw := dec_pos s pos hlt
        have hk2 := Lib.hid (Lib.iterAt_heap wr _ s pos (pos + (Utf8.decode s pos).2) hk)
        clear hk
        go_wp2_with fail
        refine (Index_any _ _).mono ?_
        rintro e w2 ⟨rfl, h2⟩
        have hx2 : Ext w w2 := (hx.iterAt h1.size s _).trans h2
        have hk3 := Lib.hid (h2.obj hk2.out)
        by_cases hi : idx ((Utf8.decode s pos).1 : Int) < 0
        · go_wp2_with fail
          go_ret
          exact ⟨by rw [HF.out, HP.out, hstep.out, List.all_cons, decide_eq_false (by omega)]; rfl, hx2⟩
        · go_wp2_with fail
          refine ⟨⟨_, hk3.out, hx2, ?_⟩, ?_⟩
          · rw [HP.out, hstep.out, List.all_cons, decide_eq_true (by omega), Bool.true_and]
          · rw [iterPos_of hk3.out, iterPos_of HK.out]; omega
      · have hn := fun ty => Lib.run_next_end_at (P := Tryd.prog) wr _ s pos ty hk hlt
        have hend := Lib.hid (runes_end s pos hlt)
        clear hk
        go_wp2_with fail
        go_ret
        exact ⟨by rw [HF.out, HP.out, hend.out]; rfl, hx⟩

end Go.Proofs.YtffianmhojiomaaDoor
