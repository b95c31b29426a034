/- The walks of package charset (place, Index, Valid, Len): what each returns, as a plain function. -/
import Derived.Test.YtffianmhojiomaaDoorBase
import Derived.Test.YtffianmhojiomaaDoorPlain
namespace Go.Proofs.YtffianmhojiomaaDoor
set_option linter.unusedVariables false
set_option linter.unusedSimpArgs false
open Go.RowKit

def PlaceRel (s : ByteArray) (r : Int) (w : World) (n : Value) (wr : World) : Prop :=
  ∃ pos k : Nat, k ≤ pos ∧ n = .int .i64 k ∧ wr = w.iter s pos ∧ placeL r (runes s 0) 0 = placeL r (runes s pos) k

set_option maxHeartbeats 400000 in
theorem place_any (s : ByteArray) (r : Int) (w : World) (hs : s.size ≤ 9223372036854775807) :
    Calls Tryd.prog 74 #[.string s, .int .i32 r] w fun e w' => e = .returned (.int .i64 (placeL r (runes s 0) 0)) ∧ Ext w w' := by
  go_enter Tryd.func74, Tryd.ntmps74
  go_wp2
  go_loopw [5] (fun n wr => PlaceRel s r w n wr) (fun _ wr => s.size - wr.iterPos w.heap.size)
  case atStart => exact ⟨0, 0, Nat.le_refl _, rfl, rfl, rfl⟩
  case round =>
    obtain ⟨pos, k, hk, rfl, rfl, hp⟩ := hrel
    have HP := Lib.hid hp
    clear hp
    by_cases hlt : pos < s.size
    · have hn := run_next_any (P := Tryd.prog) w s pos
      have hstep := Lib.hid (runes_step s pos hlt)
      have hw := dec_pos s pos hlt
      go_wp2
      · go_ret
        have he : ((Utf8.decode s pos).1 : Int) = r := by simpa using ‹((((Utf8.decode s pos).1 : Int)) == r) = true›
        exact ⟨ret_int (by rw [HP.out, hstep.out, placeL, if_pos he]), (Ext.refl w).iter s _⟩
      · have he : ¬ ((Utf8.decode s pos).1 : Int) = r := by simpa using ‹((((Utf8.decode s pos).1 : Int)) == r) = false›
        refine ⟨⟨pos + (Utf8.decode s pos).2, k + 1, by omega, by go_num, rfl, ?_⟩, by simp; omega⟩
        rw [HP.out, hstep.out, placeL, if_neg he]
        rfl
    · have hn := run_next_end (P := Tryd.prog) w s pos
      have hend := Lib.hid (runes_end s pos hlt)
      go_wp2
      go_ret
      exact ⟨ret_int (by rw [HP.out, hend.out]; rfl), (Ext.refl w).iter s _⟩

/-- the repertoire, as the text has it -/
def allBytes : ByteArray := ⟨#[32, 33, 34, 35, 36, 37, 38, 39, 40, 41, 42, 43, 44, 45, 46, 47, 48, 49, 50, 51, 52, 53, 54, 55, 56, 57, 58, 59, 60, 61, 62, 63, 64, 65, 66, 67, 68, 69, 70, 71, 72, 73, 74, 75, 76, 77, 78, 79, 80, 81, 82, 83, 84, 85, 86, 87, 88, 89, 90, 91, 92, 93, 94, 95, 96, 97, 98, 99, 100, 101, 102, 103, 104, 105, 106, 107, 108, 109, 110, 111, 112, 113, 114, 115, 116, 117, 118, 119, 120, 121, 122, 123, 124, 125, 126, 194, 161, 194, 162, 194, 163, 194, 164, 194, 165, 194, 166, 194, 167, 194, 169, 194, 171, 194, 174, 194, 176, 194, 183, 194, 187, 194, 189, 194, 191, 195, 128, 195, 129, 195, 130, 195, 131, 195, 132, 195, 133, 195, 134, 195, 135, 195, 136, 195, 137, 195, 138, 195, 139, 195, 140, 195, 141, 195, 142, 195, 143, 195, 145, 195, 146, 195, 147, 195, 148, 195, 149, 195, 150, 195, 152, 195, 153, 195, 154, 195, 155, 195, 156, 195, 159, 195, 160, 195, 161, 195, 162, 195, 163, 195, 164, 195, 165, 195, 166, 195, 167, 195, 168, 195, 169, 195, 170, 195, 171, 195, 172, 195, 173, 195, 174, 195, 175, 195, 177, 195, 178, 195, 179, 195, 180, 195, 181, 195, 182, 195, 184, 195, 185, 195, 186, 195, 187, 195, 188, 197, 146, 197, 147, 226, 128, 148, 226, 128, 152, 226, 128, 153, 226, 128, 156, 226, 128, 157, 226, 128, 162, 226, 128, 166, 226, 132, 162, 226, 153, 170]⟩

/-- the index of a character in the repertoire -/
def idx (r : Int) : Int := if 32 ≤ r ∧ r ≤ 126 then r - 32 else placeL r (runes allBytes 0) 0

set_option maxRecDepth 100000 in
set_option maxHeartbeats 1000000 in
theorem Index_any (r : Int) (w : World) : Calls Tryd.prog 51 #[.int .i32 r] w fun e w' => e = .returned (.int .i64 (idx r)) ∧ Ext w w' := by
  by_cases h1 : 32 ≤ r
  · by_cases h2 : r ≤ 126
    · go_enter Tryd.func51, Tryd.ntmps51
      go_wp2_with fail
      go_ret
      exact ⟨ret_int (by unfold idx; rw [if_pos ⟨h1, h2⟩]), Ext.refl _⟩
    · go_enter Tryd.func51, Tryd.ntmps51
      go_wp2_with fail
      refine (place_any allBytes r w (by decide)).mono ?_
      rintro e w1 ⟨rfl, h1⟩
      go_wp2_with fail
      go_ret
      exact ⟨ret_int (by unfold idx; rw [if_neg (by omega)]), h1⟩
  · go_enter Tryd.func51, Tryd.ntmps51
    go_wp2_with fail
    refine (place_any allBytes r w (by decide)).mono ?_
    rintro e w1 ⟨rfl, h1⟩
    go_wp2_with fail
    go_ret
    exact ⟨ret_int (by unfold idx; rw [if_neg (by omega)]), h1⟩
end Go.Proofs.YtffianmhojiomaaDoor
