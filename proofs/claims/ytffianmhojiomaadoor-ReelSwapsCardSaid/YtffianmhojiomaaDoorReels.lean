/- The walk of edl.Reels: names, sorted and compacted. -/
import Derived.Test.YtffianmhojiomaaDoorEdlB
import Derived.Test.YtffianmhojiomaaDoorReelsP
import Derived.Test.YtffianmhojiomaaDoorShelf
import Derived.Sort.OwnSorted
import Derived.Sort.EveryDepth
import Derived.Lib.OwnBridge
namespace Go.Proofs.YtffianmhojiomaaDoor
set_option linter.unusedVariables false
set_option linter.unusedSimpArgs false
open Go.RowKit Go.Shelf Go.Sort

theorem sort_c (blk off cap : Nat) (zs : List (List UInt8)) (w : World) (hH : Holds encStr w blk off zs.toArray) (hblk : blk < w.heap.size) (hsz : zs.length < 4611686018427387904) :
    Calls Tryd.prog 59 #[.slice (some ⟨blk, off, none⟩) zs.length cap] w fun e w' =>
      e = .returned (.tuple #[]) ∧ ∃ n os, w' = grow (putRow encStr (Sort.ahead w n) blk off (zs.mergeSort fun x y => decide (x ≤ y)).toArray) os :=
  calls_of_every_depth fun D => AnyS.slices_Sort_string_alone Tryd.laysSort D blk off cap zs w hH hblk hsz
theorem sort_none (p : Option Addr) (cap : Nat) (w : World) : Calls Tryd.prog 59 #[.slice p 0 cap] w fun e w' => e = .returned (.tuple #[]) ∧ w' = w :=
  calls_of_every_depth fun D => AnyS.slices_Sort_string_none_alone Tryd.laysSort D p cap w
theorem compact_c (blk off cap : Nat) (zs : List (List UInt8)) (w : World) (hH : Holds encStr w blk off zs.toArray) (hsz : zs.length ≤ 9223372036854775807) (hcap : zs.length ≤ cap) :
    Calls Tryd.prog 60 #[.slice (some ⟨blk, off, none⟩) zs.length cap] w fun e w' => e = .returned (.slice (some ⟨blk, off, none⟩) (Lib.compact zs).length cap) ∧ ∃ q, w' = putRow encStr (Sort.ahead w q) blk off (Lib.compact zs ++ List.replicate (zs.length - (Lib.compact zs).length) []).toArray :=
  Any.slices_Compact_string Tryd.laysCompact blk off cap zs w hH hsz hcap
theorem compact_none (a : Option Addr) (cap : Nat) (w : World) : Calls Tryd.prog 60 #[.slice a 0 cap] w fun e w' => e = .returned (.slice a 0 cap) ∧ w' = w :=
  Any.slices_Compact_string_empty Tryd.laysCompact a cap w

/-- cuts in memory -/
def CutsAt (w : World) (A : Option Addr) (n : Nat) (l : List Cut) : Prop := Sl w 7 (Cells Cut.vals) A n l
theorem CutsAt.ext {w w1 : World} {A : Option Addr} {n : Nat} {l : List Cut} (h : CutsAt w A n l) (k : Ext w w1) : CutsAt w1 A n l := Sl.ext (Cells.stays _) h k
theorem CutsAt.at7 {w : World} {A : Option Addr} {n : Nat} {l : List Cut} (h : CutsAt w A n l) {i : Nat} (hi : i < n) : ∃ b off c, A = some ⟨b, off, none⟩ ∧ l[i]? = some c ∧
    (w.cell? ⟨b, off + i * 7, none⟩ = some (.int .i64 c.num) ∧ w.cell? ⟨b, off + i * 7 + 1, none⟩ = some (.string c.reel) ∧ w.cell? ⟨b, off + i * 7 + 2, none⟩ = some (.int .i64 c.src) ∧ w.cell? ⟨b, off + i * 7 + 3, none⟩ = some (.int .i64 c.inn) ∧
      w.cell? ⟨b, off + i * 7 + 4, none⟩ = some (.int .i64 c.out) ∧ w.cell? ⟨b, off + i * 7 + 5, none⟩ = some (.int .i64 c.n) ∧ w.cell? ⟨b, off + i * 7 + 6, none⟩ = some (.int .i64 c.d)) := by
  obtain ⟨b, off, c, hA, hc, hC⟩ := h.at_ hi
  exact ⟨b, off, c, hA, hc, by simpa using hC 0 _ rfl, hC 1 _ rfl, hC 2 _ rfl, hC 3 _ rfl, hC 4 _ rfl, hC 5 _ rfl, hC 6 _ rfl⟩

/-- a list of cuts -/
structure Edl where
  title : ByteArray
  rate : Int
  drop : Bool
  cuts : List Cut
  deriving DecidableEq
def Edl.cells (e : Edl) (A : Option Addr) (n c : Nat) : Array Value := #[.string e.title, .int .u8 e.rate, .bool e.drop, .slice A n c]
def Edl.names (e : Edl) : List Bs := e.cuts.map fun c => c.reel.data.toList

theorem info_str : (Tryd.prog.info? 9).map (fun i => (i.zero, i.size, i.bytes)) = some (some (.string ⟨#[]⟩), 1, 16) := by kernel_rfl
theorem enc_reel (s : ByteArray) : encStr s.data.toList = .string s := by simp [encStr]

def ReelsPost (e : Edl) (w : World) (en : Ending) (w' : World) : Prop := ∃ A m c, en = .returned (.slice A m c) ∧ m = cnt e.names ∧ Ext w w'

def ReelsRel (w w0 : World) (n : Nat) (l : List Cut) (v i : Value) (wr : World) : Prop :=
  ∃ k : Nat, k ≤ n ∧ i = .int .i64 k ∧ Ext w0 wr ∧ Ext w wr ∧ wr.ownsRow w0.heap.size 9 1 v k ((l.take k).map fun c => Value.string c.reel)

theorem reels_end {w w1 : World} {base g cap n : Nat} {ss : List Bs} (hx : Ext w w1) (hown : w1.ownsRow base 9 1 (.slice (some ⟨g, 0, none⟩) n cap) n (ss.map encStr)) (hg : w.heap.size ≤ g) {nn q : Nat} {os : Array Obj} {d : Array (List UInt8)} :
    Ext w (putRow encStr (Sort.ahead (grow (putRow encStr (Sort.ahead w1 nn) g 0 (ss.mergeSort fun x y => decide (x ≤ y)).toArray) os) q) g 0 d) :=
  Lib.below_putRow (hx.grown (grownBy_sorted _) (fun j hj => by cases hj; exact hg)) hg

set_option maxRecDepth 100000 in
set_option maxHeartbeats 2000000 in
theorem Reels_any (e : Edl) (A : Option Addr) (n c : Nat) (w : World) (hl : CutsAt w A n e.cuts) (hn : n ≤ 1000000) :
    Calls Tryd.prog 41 #[.agg (e.cells A n c)] w (ReelsPost e w) := by
  have HL := Lib.hid hl
  have HLn := Lib.hid hl.len
  clear hl
  unfold Edl.cells
  have HX0 := Lib.hid ((Ext.refl w).alloc (.cells #[.string e.title, .int .u8 e.rate, .bool e.drop, .slice A n c] 32))
  go_enter Tryd.func41, Tryd.ntmps41
  go_wp2_with fail
  go_loopw [3, 9] (fun v i wr => ReelsRel w (w.alloc (.cells #[.string e.title, .int .u8 e.rate, .bool e.drop, .slice A n c] 32)) n e.cuts v i wr) (fun _ i _ => n - (intOf i).toNat)
  case atStart => exact ⟨0, Nat.zero_le _, rfl, Ext.refl _, HX0.out, ⟨rfl, .inl ⟨rfl, rfl⟩⟩⟩
  case round =>
    obtain ⟨k, hk, rfl, hx, hxw, hown⟩ := hrel
    by_cases hlt : k < n
    · obtain ⟨b, off, r, rfl, hr, c0, c1, c2, c3, c4, c5, c6⟩ := (HL.out.ext hxw).at7 hlt
      have HT := Lib.hid (take_snoc' e.cuts k r hr)
      have HO := Lib.hid (hown.alloc (.cells r.cells 67))
      unfold Cut.cells at HO
      have HO0 := Lib.hid hown
      clear hr hown
      have hsz := hx.size
      simp only [World.size_alloc] at hsz
      go_wp2_with (at_builtin; refine wpList_append1 rfl (.tmp 13) (.tmp 16) 80 rfl info_str Tryd.underlying80 rfl (by decide) (HO.out.alloc _) (by exact rfl) (wr.heap.size + 1) _ (by exact rfl) (by exact Blk.new' (by simp)) (by exact rfl) (by simp [Value.oneCell']) (by omega) (by simp [maxLen]; omega) (by simp; omega) ?_; intro v' w3 hown3 hgr)
      refine ⟨⟨k + 1, by omega, by go_num, ((hx.alloc _).alloc _).grown hgr (fun q hq => by have := own_lt HO0.out q hq; simpa using this), ((hxw.alloc _).alloc _).grown hgr (fun q hq => by have := own_lt HO0.out q hq; have := HX0.out.size; omega), ?_⟩, by simp [intOf]; omega⟩
      rw [HT.out, List.map_append]
      exact hown3
    · have hkn : k = n := by omega
      subst hkn
      have HT : Hid (e.cuts.take k = e.cuts) := List.take_of_length_le (by rw [HLn.out]; omega)
      have hown2 : wr.ownsRow (w.alloc (.cells #[.string e.title, .int .u8 e.rate, .bool e.drop, .slice A k c] 32)).heap.size 9 1 u3 k (e.names.map encStr) := by
        have := hown
        rw [HT.out] at this
        have e1 : e.names.map encStr = e.cuts.map fun c => Value.string c.reel := by
          unfold Edl.names
          rw [List.map_map]
          exact List.map_congr_left fun c _ => enc_reel c.reel
        rw [e1]
        exact this
      have HO := Lib.hid hown2
      have HXw := Lib.hid hxw
      have hb0 := HX0.out.size
      have HLs : Hid (e.names.length = k) := by show _ = _; unfold Edl.names; rw [List.length_map, HLn.out]
      clear hown hown2
      rcases Classical.em (u3 = .slice none 0 0) with hv | hv
      · subst hv
        have hk0 : k = 0 := by
          rcases HO.out.2 with ⟨_, h0⟩ | ⟨g, cap, cur, h0, _⟩
          · exact h0
          · cases h0
        subst hk0
        have HN : Hid (e.names = []) := List.eq_nil_of_length_eq_zero HLs.out
        go_wp2_with fail
        refine (sort_none none 0 _).mono ?_
        rintro en w2 ⟨rfl, rfl⟩
        go_wp2_with fail
        refine (compact_none none 0 _).mono ?_
        rintro en w3 ⟨rfl, rfl⟩
        go_wp2_with fail
        go_ret
        exact ⟨none, 0, 0, rfl, by rw [HN.out, cnt_nil], HXw.out⟩
      · obtain ⟨g, cap, rfl, hbg, hgl, hncap, hcm, hlen, hH⟩ := Lib.holds_of_ownsRow HO.out hv
        have hsort := sort_c g 0 cap e.names wr hH hgl (by omega)
        rw [hlen] at hsort
        have HH := Lib.hid hH
        clear hH hv
        go_wp2_with fail
        refine hsort.mono ?_
        rintro en w2 ⟨rfl, nn, os, rfl⟩
        have hl2 : (e.names.mergeSort fun x y => decide (x ≤ y)).length = k := by rw [List.length_mergeSort]; exact hlen
        have hH2 : Holds encStr (grow (putRow encStr (Sort.ahead wr nn) g 0 (e.names.mergeSort fun x y => decide (x ≤ y)).toArray) os) g 0 (e.names.mergeSort fun x y => decide (x ≤ y)).toArray :=
          holds_grow encStr _ os g 0 _ (by simpa [putRow, mapBlock, Sort.ahead] using hgl) (holds_putRow encStr _ g 0 _ _ (holds_ahead encStr wr nn g 0 _ HH.out) (by simp))
        have hcomp := compact_c g 0 cap (e.names.mergeSort fun x y => decide (x ≤ y)) _ hH2 (by omega) (by omega)
        rw [hl2] at hcomp
        clear hH2 hsort
        have HE := fun q d => Lib.hid (reels_end (nn := nn) (q := q) (os := os) (d := d) HXw.out HO.out (by omega))
        generalize grow (putRow encStr (Sort.ahead wr nn) g 0 (e.names.mergeSort fun x y => decide (x ≤ y)).toArray) os = w2 at *
        go_wp2_with fail
        refine hcomp.mono ?_
        rintro en w3 ⟨rfl, q, rfl⟩
        have HE2 := HE q ((Lib.compact (e.names.mergeSort fun x y => decide (x ≤ y)) ++ List.replicate (k - (Lib.compact (e.names.mergeSort fun x y => decide (x ≤ y))).length) []).toArray)
        generalize putRow encStr (Sort.ahead w2 q) g 0 (Lib.compact (e.names.mergeSort fun x y => decide (x ≤ y)) ++ List.replicate (k - (Lib.compact (e.names.mergeSort fun x y => decide (x ≤ y))).length) []).toArray = w3 at *
        go_wp2_with fail
        go_ret
        exact ⟨_, _, _, rfl, rfl, HE2.out⟩
end Go.Proofs.YtffianmhojiomaaDoor
