/- The walk of the law package's rows: rows of plain texts. -/
import Derived.Test.YtcgflkmkdpgchaaDoorSplitC
namespace Go.Proofs.YtcgflkmkdpgchaaDoor
set_option linter.unusedVariables false
set_option linter.unusedSimpArgs false
open Go.RowKit

def plainRun (s : ByteArray) : Run := ⟨s, 0, false, false, ⟨#[]⟩⟩
def plainRow (s : ByteArray) : Row := [plainRun s]
def StrsAt (w : World) (A : Option Addr) (n : Nat) (l : List ByteArray) : Prop := Sl w 1 (Cells fun s => [Value.string s]) A n l

theorem runs_new (w : World) (s : ByteArray) : RunsAt (w.alloc (.cells #[.string s, .int .u8 0, .bool false, .bool false, .string ⟨#[]⟩] 48)) (some ⟨w.heap.size, 0, none⟩) 1 (plainRow s) := by
  refine ⟨rfl, fun _ => ⟨_, _, rfl, fun i x hx => ?_⟩⟩
  have hB := Blk.new w 48 #[.string s, .int .u8 0, .bool false, .bool false, .string ⟨#[]⟩]
  obtain rfl : i = 0 := by
    have := (List.getElem?_eq_some_iff.1 hx).1
    simp [plainRow] at this
    exact this
  simp [plainRow] at hx
  subst hx
  refine ⟨?_, ?_, ?_, ?_, ?_⟩ <;> (rw [hB.cell]; rfl)

set_option maxRecDepth 100000 in
set_option maxHeartbeats 2000000 in
theorem rows_any (A : Option Addr) (n c : Nat) (ss : List ByteArray) (w : World) (hl : StrsAt w A n ss) (hn : n * 24 ≤ 140737488355328) :
    Calls Tryd.prog 22 #[.slice A n c] w (SClonePost (ss.map plainRow) n w) := by
  have HL := Lib.hid hl
  have HLn := Lib.hid (show (ss.map plainRow).length = n by rw [List.length_map]; exact hl.len)
  clear hl
  go_enter Tryd.func22, Tryd.ntmps22
  go_wp2_with fail
  go_loopw [3, 8] (fun v i wr => RCloneRel w (ss.map plainRow) n v i wr) (fun _ i _ => n - (intOf i).toNat)
  case atStart => exact ⟨0, [], Nat.zero_le _, rfl, rfl, ⟨rfl, .inl ⟨rfl, rfl⟩⟩, Ext.refl _, fun i h r hi _ => by simp at hi, fun g hg h hm => by simp at hm, fun h hm => by simp at hm⟩
  case round =>
    obtain ⟨k, hs, hk, rfl, hsl, hown, hx, hgd, hap, hfr⟩ := hrel
    have HGd := Lib.hid hgd
    have HAp := Lib.hid hap
    have HFr := Lib.hid hfr
    have HSl := Lib.hid hsl
    have HO := Lib.hid hown
    clear hgd hap hfr hsl hown
    by_cases hlt : k < n
    · obtain ⟨b, off, s, rfl, hr, hcells⟩ := (Sl.ext (Cells.stays _) HL.out hx).at_ hlt
      have hcell := hcells 0 _ rfl
      simp only [Nat.mul_one, Nat.add_zero] at hcell
      have HRr := Lib.hid hr
      clear hr hcells
      have hwr : w.heap.size ≤ wr.heap.size := hx.size
      have HX1 := Lib.hid ((Ext.refl wr).alloc (.cells #[.string s, .int .u8 0, .bool false, .bool false, .string ⟨#[]⟩] 48))
      have HRu := Lib.hid (runs_new wr s)
      have HTy := Lib.hid (Blk.new wr 48 #[.string s, .int .u8 0, .bool false, .bool false, .string ⟨#[]⟩]).typed
      go_wp2_with (at_builtin; refine wpList_append1a rfl (.tmp 12) (.tmp 17) 25 rfl info_row Tryd.underlying25 rfl (by decide) ((own_ext HO.out HX1.out).alloc _) (by exact rfl) (wr.heap.size + 1) _ (by exact rfl) (by exact Blk.new' (by simp)) (by exact rfl) (by simp [Value.oneCell']) (by omega) (by simp [maxLen]; omega) (by simp; omega) ?_; intro v' w3 hown3 hgr3 hat3)
      refine ⟨rclone_step (r := plainRow s) hlt hx HX1.out HSl.out HO.out HGd.out HAp.out HFr.out (by rw [List.getElem?_map, HRr.out]; rfl) (n' := 1) (c1 := 1) (A1 := some ⟨wr.heap.size, 0, none⟩) (by omega) (Nat.le_refl _) HRu.out (fun ad had => ?_) (fun _ ad had => ?_) hown3 hgr3 hat3, by simp [intOf]; omega⟩
      · cases had
        exact ⟨Nat.le_refl _, HTy.out⟩
      · cases had
        simp
    · have hkn : k = n := by omega
      subst hkn
      go_wp2_with fail
      go_ret
      obtain ⟨A', c', hv, hc, _, hsl', hfr'⟩ := own_sl (f := fun h : Hd => [Hd.val h]) (size := 1) (fun _ => rfl) HSl.out HO.out
      have HT : (ss.map plainRow).take k = ss.map plainRow := List.take_of_length_le (by rw [HLn.out]; omega)
      refine ⟨A', c', by rw [← hv]; rfl, hc, ⟨hs, hsl', by have := HGd.out; rw [HT] at this; exact this, HLn.out, Fresh.of_own (by rw [← hv]; exact HO.out), fun h hm => HFr.out h hm⟩, hx⟩
end Go.Proofs.YtcgflkmkdpgchaaDoor
