/- The walks of package style (Plain, Check). -/
import Derived.Test.YtcgflkmkdpgchaaDoorStyle
namespace Go.Proofs.YtcgflkmkdpgchaaDoor
set_option linter.unusedVariables false
set_option linter.unusedSimpArgs false
open Go.RowKit

/-- the bytes of a row's text -/
def rowText (l : Row) : List UInt8 := l.flatMap fun r => r.text.data.toList
theorem rowText_len (l : Row) : (rowText l).length = rowBytes l := by
  unfold rowText rowBytes
  induction l with
  | nil => rfl
  | cons r l ih => simp [List.flatMap_cons, ih]

def PlainRel (w : World) (bx : Array Value) (n : Nat) (l : Row) (i : Value) (wr : World) : Prop :=
  ∃ k : Nat, k ≤ n ∧ i = .int .i64 k ∧ Ext (w.alloc (.cells bx 43)) wr ∧ Lib.IsBuilder 93 5 (w.heap.size + 1) (w.heap.size + 1) (Lib.byteCells (rowText (l.take k))) wr

theorem byteCells_append (a b : List UInt8) : Lib.byteCells (a ++ b) = Lib.byteCells a ++ Lib.byteCells b := by simp [Lib.byteCells]
theorem strCells_eq (s : ByteArray) : Lib.strCells s = Lib.byteCells s.data.toList := by
  rfl

theorem rowText_snoc (l : Row) (k : Nat) (r : Run) (h : l[k]? = some r) : rowText (l.take (k + 1)) = rowText (l.take k) ++ r.text.data.toList := by
  have hkl := (List.getElem?_eq_some_iff.1 h).1
  rw [List.take_succ_eq_append_getElem hkl, (List.getElem?_eq_some_iff.1 h).2]
  simp [rowText]

theorem isBuilder_alloc {T e : TypeId} {B b : Nat} {bs : List Value} {w : World} (h : Lib.IsBuilder T e B b bs w) (o : Obj) : Lib.IsBuilder T e B b bs (w.alloc o) := by
  have key : ∀ p, Lib.BuilderAt T e B b p bs w → Lib.BuilderAt T e B b p bs (w.alloc o) := fun p ⟨hB, v, hb, hown, hne⟩ =>
    ⟨hB, v, (Below.heap_alloc w o b (Array.getElem?_eq_some_iff.1 hb).1).trans hb, hown.alloc o, hne⟩
  exact h.elim (fun x => .inl (key _ x)) (fun x => .inr (key _ x))

set_option maxHeartbeats 1000000 in
theorem Plain_any (A : Option Addr) (n c : Nat) (l : Row) (w : World) (hl : RunsAt w A n l) (hb : rowBytes l ≤ 140737488355328) (hn : n ≤ 4611686018427387904) :
    Calls Tryd.prog 38 #[.agg #[.slice A n c]] w fun e w' => e = .returned (.string ⟨(rowText l).toArray⟩) ∧ Ext w w' := by
  have HL := Lib.hid hl
  have HLn := Lib.hid hl.len
  clear hl
  go_enter Tryd.func38, Tryd.ntmps38
  go_wp2_with fail
  go_loopw [9] (fun i wr => PlainRel w #[.slice A n c] n l i wr) (fun i _ => n - (intOf i).toNat)
  case atStart =>
    refine ⟨0, Nat.zero_le _, rfl, (Ext.refl _).alloc _, .inl ⟨Nat.le_refl _, .slice none 0 0, ?_, ⟨rfl, .inl ⟨rfl, rfl⟩⟩, by simp [Value.ownBlock]⟩⟩
    exact Blk.new' (w := w.alloc _) (by simp)
  case round =>
    obtain ⟨k, hk, rfl, hx, hbd⟩ := hrel
    have hxw : Ext w wr := ((Ext.refl w).alloc _).trans hx
    have HB := Lib.hid hbd
    clear hbd
    have hsz := hx.size
    simp only [World.size_alloc] at hsz
    by_cases hlt : k < n
    · obtain ⟨b, off, r, rfl, hr, hC⟩ := (HL.out.ext hxw).at_ hlt
      obtain ⟨c0, c1, c2, c3, c4⟩ := hC
      have HT := Lib.hid (rowText_snoc l k r hr)
      have hbt := rowBytes_drop l k r hr
      have hble := rowBytes_take_le l (k + 1)
      have hlen : Hid ((Lib.byteCells (rowText (l.take k))).length + r.text.size ≤ 140737488355328) := by
        show (Lib.byteCells (rowText (l.take k))).length + r.text.size ≤ _
        rw [Lib.byteCells_length, rowText_len]; omega
      clear hbt hble hr
      go_wp2_with fail
      refine (WriteString_any (w.heap.size + 1) _ _ _ _ (isBuilder_alloc HB.out _) hlen.out (by simp; omega)).mono ?_
      rintro e w2 ⟨rfl, hb2, hx2⟩
      go_wp2_with fail
      refine ⟨⟨k + 1, by omega, by go_num, ?_, ?_⟩, by simp [intOf]; omega⟩
      · exact (hx.alloc _).below hx2 (by simp)
      · rw [HT.out, byteCells_append]
        exact .inr hb2
    · have HT : Hid (l.take k = l) := List.take_of_length_le (by rw [HLn.out]; omega)
      go_wp2_with fail
      refine (Tryd.Builder_String_any (w.heap.size + 1) _ _ _ HB.out (by omega)).mono ?_
      rintro e w2 ⟨rfl, hx2⟩
      go_wp2_with fail
      go_ret
      exact ⟨by rw [HT.out]; rfl, hxw.below hx2 (by omega)⟩
end Go.Proofs.YtcgflkmkdpgchaaDoor
