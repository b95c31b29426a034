/- Events in memory, and the walks of event.lens, Frames, Len. -/
import Derived.Test.YtcgflkmkdpgchaaDoorRowE
import Derived.Test.YtcgflkmkdpgchaaDoorPlace
import Derived.Test.YtcgflkmkdpgchaaDoorFind
namespace Go.Proofs.YtcgflkmkdpgchaaDoor
set_option linter.unusedVariables false
set_option linter.unusedSimpArgs false
open Go.RowKit

/-- an event -/
structure Ev where
  id : Int
  inn : Int
  out : Int
  region : ByteArray
  kind : Int
  speaker : ByteArray
  rows : List Row
  deriving DecidableEq
/-- the cells of an event whose rows lie at A -/
def Ev.cells (e : Ev) (A : Option Addr) (n c : Nat) : Array Value := #[.int .i64 e.id, .int .i64 e.inn, .int .i64 e.out, .string e.region, .int .u8 e.kind, .string e.speaker, .slice A n c]
/-- its rows lie at A, within a capacity that Go bears -/
def EvAt (w : World) (e : Ev) (A : Option Addr) (n c : Nat) : Prop := RowsAt w A n e.rows ∧ n ≤ c ∧ n * 24 ≤ 140737488355328
theorem EvAt.ext {w w1 : World} {e : Ev} {A : Option Addr} {n c : Nat} (h : EvAt w e A n c) (k : Ext w w1) : EvAt w1 e A n c := ⟨h.1.ext k, h.2⟩
theorem EvAt.len {w : World} {e : Ev} {A : Option Addr} {n c : Nat} (h : EvAt w e A n c) : e.rows.length = n := h.1.len

/-- small texts: what the walks that reckon lengths ask -/
def RowSmall (r : Row) : Prop := rowBytes r < 4294967281 ∧ ∀ x ∈ r, x.text.size ≤ 4611686018427387904 ∧ x.ruby.size ≤ 4611686018427387904
def EvSmall (e : Ev) : Prop := e.region.size ≤ 9223372036854775807 ∧ e.speaker.size ≤ 9223372036854775807 ∧ ∀ r ∈ e.rows, RowSmall r

def LensPost (e : Ev) (w : World) (en : Ending) (w' : World) : Prop :=
  ∃ A n c, en = .returned (.slice A n c) ∧ IntsAt w' A n (e.rows.map rowLen) ∧ n ≤ c ∧ Ext w w'

def LensRel (w : World) (bx : Array Value) (n : Nat) (rows : List Row) (v i : Value) (wr : World) : Prop :=
  ∃ k : Nat, k ≤ n ∧ i = .int .i64 k ∧ Ext (w.alloc (.cells bx 27)) wr ∧ wr.ownsRow (w.heap.size + 1) 3 1 v k (((rows.take k).map rowLen).flatMap fun x => [Value.int .i64 x])

theorem info_int : (Tryd.prog.info? 3).map (fun i => (i.zero, i.size, i.bytes)) = some (some (.int .i64 0), 1, 8) := by kernel_rfl

theorem lensPost_ok {e : Ev} {w w' : World} {v : Value} {n base : Nat} (hn : e.rows.length = n) (hown : w'.ownsRow base 3 1 v n ((e.rows.map rowLen).flatMap fun x => [Value.int .i64 x])) (hx : Ext w w') : LensPost e w (.returned v) w' := by
  have hl : (e.rows.map rowLen).length = n := by rw [List.length_map, hn]
  obtain ⟨A, c, rfl, hc, _, hsl, _⟩ := own_sl (f := fun x : Int => [Value.int .i64 x]) (size := 1) (fun _ => rfl) hl hown
  exact ⟨A, n, c, rfl, hsl, hc, hx⟩

set_option maxRecDepth 100000 in
set_option maxHeartbeats 2000000 in
theorem lens_any (e : Ev) (A : Option Addr) (n c : Nat) (w : World) (hE : Env w) (he : EvAt w e A n c) (hb : ∀ r ∈ e.rows, RowSmall r) :
    Calls Tryd.prog 37 #[.agg (e.cells A n c)] w (LensPost e w) := by
  have hn24 : n * 24 ≤ 140737488355328 := by have := he.2; omega
  have HA := Lib.hid he.1
  have HLn := Lib.hid he.len
  have HEn := Lib.hid hE
  have HBd := Lib.hid hb
  clear he hE hb
  unfold Ev.cells
  go_enter Tryd.func37, Tryd.ntmps37
  go_wp2_with fail
  go_loopw [3, 9] (fun v i wr => LensRel w #[.int .i64 e.id, .int .i64 e.inn, .int .i64 e.out, .string e.region, .int .u8 e.kind, .string e.speaker, .slice A n c] n e.rows v i wr) (fun _ i _ => n - (intOf i).toNat)
  case atStart => exact ⟨0, Nat.zero_le _, rfl, Ext.refl _, ⟨rfl, .inl ⟨rfl, rfl⟩⟩⟩
  case round =>
    obtain ⟨k, hk, rfl, hx, hown⟩ := hrel
    have hxw : Ext w wr := ((Ext.refl w).alloc _).trans hx
    by_cases hlt : k < n
    · obtain ⟨b, off, r, rfl, hr, A', n', c', hcell, hnc, hc40, hruns⟩ := (HA.out.ext hxw).at_ hlt
      simp only [Nat.mul_one] at hcell
      have HR := Lib.hid hruns
      have hsm := HBd.out r (List.mem_of_getElem? hr)
      have HT := Lib.hid (take_snoc' e.rows k r hr)
      have hrb : rowBytes r < 4294967281 := hsm.1
      clear hr hruns hsm
      go_wp2_with fail
      refine (SLen_any A' n' c' r _ (HEn.out.ext (hxw.alloc _)) (HR.out.ext ((Ext.refl wr).alloc _)) (by omega) (by omega)).mono ?_
      rintro en w2 ⟨rfl, hx2⟩
      have HO2 := Lib.hid (own_ext (hown.alloc (.cells #[.slice A' n' c'] 43)) hx2)
      have hsz2 := hx.size
      have hsz3 := hx2.size
      simp only [World.size_alloc] at hsz2 hsz3
      go_wp2_with (at_builtin; refine wpList_append1 rfl (.tmp 13) (.tmp 16) 76 rfl info_int Tryd.underlying76 rfl (by decide) (HO2.out.alloc _) (by exact rfl) w2.heap.size _ (by exact rfl) (by exact Blk.new' rfl) (by exact rfl) (by simp [Value.oneCell']) (by omega) (by simp [maxLen]; omega) (by simp; omega) ?_; intro v' w3 hown3 hgr)
      refine ⟨⟨k + 1, by omega, by go_num, ((hx.alloc _).trans (hx2.alloc _)).grown hgr (fun q hq => by have := own_lt hown q hq; simpa using this), ?_⟩, by simp [intOf]; omega⟩
      rw [HT.out, List.map_append, List.flatMap_append]
      exact hown3
    · have hkn : k = n := by omega
      subst hkn
      have HT : Hid (e.rows.take k = e.rows) := List.take_of_length_le (by rw [HLn.out]; omega)
      have HO := Lib.hid hown
      clear hown
      go_wp2_with fail
      go_ret
      exact lensPost_ok HLn.out (by have := HO.out; rw [HT.out] at this; exact this) hxw
end Go.Proofs.YtcgflkmkdpgchaaDoor
