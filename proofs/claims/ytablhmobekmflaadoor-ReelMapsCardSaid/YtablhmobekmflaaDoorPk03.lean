/- Laid together: The walk of edl.Reels: names, sorted and compacted. Plain functions on strings and runes: no program in sight. The walks of package charset (place, Index, Valid, Len): what each returns, as a plain function. The walks of package charset (Valid, Len). The first error of an edit decision list, plainly. The walk of edl.Check. The walks of the reference's charset: Repertoire, Index, Valid. The walks of the references' rates: Valid, CanDrop, Nominal, Dropped, Day. The walk of the reference's Reels: names, set into a list at their places. The walk of the reference's Check. -/
import Derived.Test.YtablhmobekmflaaDoorPk02
import Derived.Test.YtablhmobekmflaaDoorShelf
import Derived.Sort.OwnSorted
import Derived.Sort.EveryDepth
import Derived.Lib.OwnBridge
import Derived.Laws.RangeAny
import Derived.Test.YtablhmobekmflaaDoorPk01
import Derived.Lib.OthersKept
import Derived.Lib.ValidLaws
import Derived.Lib.TrimUEq
import Derived.Sort.Walk0

/-! Reels -/
namespace Go.Proofs.YtablhmobekmflaaDoor
set_option linter.unusedVariables false
set_option linter.unusedSimpArgs false
open Go.RowKit Go.Shelf Go.Sort
theorem sort_c (blk off cap : Nat) (zs : List (List UInt8)) (w : World) (hH : Holds encStr w blk off zs.toArray) (hblk : blk < w.heap.size) (hsz : zs.length < 4611686018427387904) :
    Calls Tryd.prog 38 #[.slice (some ⟨blk, off, none⟩) zs.length cap] w fun e w' =>
      e = .returned (.tuple #[]) ∧ ∃ n os, w' = grow (putRow encStr (Sort.ahead w n) blk off (zs.mergeSort fun x y => decide (x ≤ y)).toArray) os :=
  calls_of_every_depth fun D => AnyS.slices_Sort_string_alone Tryd.laysSort D blk off cap zs w hH hblk hsz
theorem sort_none (p : Option Addr) (cap : Nat) (w : World) : Calls Tryd.prog 38 #[.slice p 0 cap] w fun e w' => e = .returned (.tuple #[]) ∧ w' = w :=
  calls_of_every_depth fun D => AnyS.slices_Sort_string_none_alone Tryd.laysSort D p cap w
theorem compact_c (blk off cap : Nat) (zs : List (List UInt8)) (w : World) (hH : Holds encStr w blk off zs.toArray) (hsz : zs.length ≤ 9223372036854775807) (hcap : zs.length ≤ cap) :
    Calls Tryd.prog 39 #[.slice (some ⟨blk, off, none⟩) zs.length cap] w fun e w' => e = .returned (.slice (some ⟨blk, off, none⟩) (Lib.compact zs).length cap) ∧ ∃ q, w' = putRow encStr (Sort.ahead w q) blk off (Lib.compact zs ++ List.replicate (zs.length - (Lib.compact zs).length) []).toArray :=
  Any.slices_Compact_string Tryd.laysCompact blk off cap zs w hH hsz hcap
theorem compact_none (a : Option Addr) (cap : Nat) (w : World) : Calls Tryd.prog 39 #[.slice a 0 cap] w fun e w' => e = .returned (.slice a 0 cap) ∧ w' = w :=
  Any.slices_Compact_string_empty Tryd.laysCompact a cap w
/-- cuts in memory -/
def CutsAt (w : World) (A : Option Addr) (n : Nat) (l : List Cut) : Prop := Sl w 7 (Cells Cut.vals) A n l
theorem CutsAt.ext {w w1 : World} {A : Option Addr} {n : Nat} {l : List Cut} (h : CutsAt w A n l) (k : Ext w w1) : CutsAt w1 A n l := Sl.ext (Cells.stays _) h k
theorem CutsAt.at7 {w : World} {A : Option Addr} {n : Nat} {l : List Cut} (h : CutsAt w A n l) {i : Nat} (hi : i < n) : ∃ b off c, A = some ⟨b, off, none⟩ ∧ l[i]? = some c ∧
    (w.cell? ⟨b, off + i * 7, none⟩ = some (.int .i64 c.num) ∧ w.cell? ⟨b, off + i * 7 + 1, none⟩ = some (.string c.reel) ∧ w.cell? ⟨b, off + i * 7 + 2, none⟩ = some (.int .i64 c.src) ∧ w.cell? ⟨b, off + i * 7 + 3, none⟩ = some (.int .i64 c.inn) ∧
      w.cell? ⟨b, off + i * 7 + 4, none⟩ = some (.int .i64 c.out) ∧ w.cell? ⟨b, off + i * 7 + 5, none⟩ = some (.int .i64 c.n) ∧ w.cell? ⟨b, off + i * 7 + 6, none⟩ = some (.int .i64 c.d)) := by
  obtain ⟨b, off, c, hA, hc, hC⟩ := h.at_ hi
  exact ⟨b, off, c, hA, hc, by simpa using hC 0 _ rfl, hC 1 _ rfl, hC 2 _ rfl, hC 3 _ rfl, hC 4 _ rfl, hC 5 _ rfl, hC 6 _ rfl⟩
/-- a list of cuts -/
structure Edl where
  title : ByteArray
  rate : Int
  drop : Bool
  cuts : List Cut
  deriving DecidableEq
def Edl.cells (e : Edl) (A : Option Addr) (n c : Nat) : Array Value := #[.string e.title, .int .u8 e.rate, .bool e.drop, .slice A n c]
def Edl.names (e : Edl) : List Bs := e.cuts.map fun c => c.reel.data.toList
theorem info_str : (Tryd.prog.info? 9).map (fun i => (i.zero, i.size, i.bytes)) = some (some (.string ⟨#[]⟩), 1, 16) := by kernel_rfl
theorem enc_reel (s : ByteArray) : encStr s.data.toList = .string s := by simp [encStr]
def ReelsPost (e : Edl) (w : World) (en : Ending) (w' : World) : Prop := ∃ A m c, en = .returned (.slice A m c) ∧ m = cnt e.names ∧ Ext w w'
def ReelsRel (w w0 : World) (n : Nat) (l : List Cut) (v i : Value) (wr : World) : Prop :=
  ∃ k : Nat, k ≤ n ∧ i = .int .i64 k ∧ Ext w0 wr ∧ Ext w wr ∧ wr.ownsRow w0.heap.size 9 1 v k ((l.take k).map fun c => Value.string c.reel)
theorem reels_end {w w1 : World} {base g cap n : Nat} {ss : List Bs} (hx : Ext w w1) (hown : w1.ownsRow base 9 1 (.slice (some ⟨g, 0, none⟩) n cap) n (ss.map encStr)) (hg : w.heap.size ≤ g) {nn q : Nat} {os : Array Obj} {d : Array (List UInt8)} :
    Ext w (putRow encStr (Sort.ahead (grow (putRow encStr (Sort.ahead w1 nn) g 0 (ss.mergeSort fun x y => decide (x ≤ y)).toArray) os) q) g 0 d) :=
  Lib.below_putRow (hx.grown (grownBy_sorted _) (fun j hj => by cases hj; exact hg)) hg
set_option maxRecDepth 100000 in
set_option maxHeartbeats 2000000 in
theorem Reels_any (e : Edl) (A : Option Addr) (n c : Nat) (w : World) (hl : CutsAt w A n e.cuts) (hn : n ≤ 1000000) :
    Calls Tryd.prog 22 #[.agg (e.cells A n c)] w (ReelsPost e w) := by
  have HL := Lib.hid hl
  have HLn := Lib.hid hl.len
  clear hl
  unfold Edl.cells
  have HX0 := Lib.hid ((Ext.refl w).alloc (.cells #[.string e.title, .int .u8 e.rate, .bool e.drop, .slice A n c] 28))
  go_enter Tryd.func22, Tryd.ntmps22
  go_wp2_with fail
  go_loopw [3, 9] (fun v i wr => ReelsRel w (w.alloc (.cells #[.string e.title, .int .u8 e.rate, .bool e.drop, .slice A n c] 28)) n e.cuts v i wr) (fun _ i _ => n - (intOf i).toNat)
  case atStart => exact ⟨0, Nat.zero_le _, rfl, Ext.refl _, HX0.out, ⟨rfl, .inl ⟨rfl, rfl⟩⟩⟩
  case round =>
    obtain ⟨k, hk, rfl, hx, hxw, hown⟩ := hrel
    by_cases hlt : k < n
    · obtain ⟨b, off, r, rfl, hr, c0, c1, c2, c3, c4, c5, c6⟩ := (HL.out.ext hxw).at7 hlt
      have HT := Lib.hid (take_snoc' e.cuts k r hr)
      have HO := Lib.hid (hown.alloc (.cells r.cells 52))
      unfold Cut.cells at HO
      have HO0 := Lib.hid hown
      clear hr hown
      have hsz := hx.size
      simp only [World.size_alloc] at hsz
      go_wp2_with (at_builtin; refine wpList_append1 rfl (.tmp 13) (.tmp 16) 63 rfl info_str Tryd.underlying63 rfl (by decide) (HO.out.alloc _) (by exact rfl) (wr.heap.size + 1) _ (by exact rfl) (by exact Blk.new' (by simp)) (by exact rfl) (by simp [Value.oneCell']) (by omega) (by simp [maxLen]; omega) (by simp; omega) ?_; intro v' w3 hown3 hgr)
      refine ⟨⟨k + 1, by omega, by go_num, ((hx.alloc _).alloc _).grown hgr (fun q hq => by have := own_lt HO0.out q hq; simpa using this), ((hxw.alloc _).alloc _).grown hgr (fun q hq => by have := own_lt HO0.out q hq; have := HX0.out.size; omega), ?_⟩, by simp [intOf]; omega⟩
      rw [HT.out, List.map_append]
      exact hown3
    · have hkn : k = n := by omega
      subst hkn
      have HT : Hid (e.cuts.take k = e.cuts) := List.take_of_length_le (by rw [HLn.out]; omega)
      have hown2 : wr.ownsRow (w.alloc (.cells #[.string e.title, .int .u8 e.rate, .bool e.drop, .slice A k c] 28)).heap.size 9 1 u3 k (e.names.map encStr) := by
        have := hown
        rw [HT.out] at this
        have e1 : e.names.map encStr = e.cuts.map fun c => Value.string c.reel := by
          unfold Edl.names
          rw [List.map_map]
          exact List.map_congr_left fun c _ => enc_reel c.reel
        rw [e1]
        exact this
      have HO := Lib.hid hown2
      have HXw := Lib.hid hxw
      have hb0 := HX0.out.size
      have HLs : Hid (e.names.length = k) := by show _ = _; unfold Edl.names; rw [List.length_map, HLn.out]
      clear hown hown2
      rcases Classical.em (u3 = .slice none 0 0) with hv | hv
      · subst hv
        have hk0 : k = 0 := by
          rcases HO.out.2 with ⟨_, h0⟩ | ⟨g, cap, cur, h0, _⟩
          · exact h0
          · cases h0
        subst hk0
        have HN : Hid (e.names = []) := List.eq_nil_of_length_eq_zero HLs.out
        go_wp2_with fail
        refine (sort_none none 0 _).mono ?_
        rintro en w2 ⟨rfl, rfl⟩
        go_wp2_with fail
        refine (compact_none none 0 _).mono ?_
        rintro en w3 ⟨rfl, rfl⟩
        go_wp2_with fail
        go_ret
        exact ⟨none, 0, 0, rfl, by rw [HN.out, cnt_nil], HXw.out⟩
      · obtain ⟨g, cap, rfl, hbg, hgl, hncap, hcm, hlen, hH⟩ := Lib.holds_of_ownsRow HO.out hv
        have hsort := sort_c g 0 cap e.names wr hH hgl (by omega)
        rw [hlen] at hsort
        have HH := Lib.hid hH
        clear hH hv
        go_wp2_with fail
        refine hsort.mono ?_
        rintro en w2 ⟨rfl, nn, os, rfl⟩
        have hl2 : (e.names.mergeSort fun x y => decide (x ≤ y)).length = k := by rw [List.length_mergeSort]; exact hlen
        have hH2 : Holds encStr (grow (putRow encStr (Sort.ahead wr nn) g 0 (e.names.mergeSort fun x y => decide (x ≤ y)).toArray) os) g 0 (e.names.mergeSort fun x y => decide (x ≤ y)).toArray :=
          holds_grow encStr _ os g 0 _ (by simpa [putRow, mapBlock, Sort.ahead] using hgl) (holds_putRow encStr _ g 0 _ _ (holds_ahead encStr wr nn g 0 _ HH.out) (by simp))
        have hcomp := compact_c g 0 cap (e.names.mergeSort fun x y => decide (x ≤ y)) _ hH2 (by omega) (by omega)
        rw [hl2] at hcomp
        clear hH2 hsort
        have HE := fun q d => Lib.hid (reels_end (nn := nn) (q := q) (os := os) (d := d) HXw.out HO.out (by omega))
        generalize grow (putRow encStr (Sort.ahead wr nn) g 0 (e.names.mergeSort fun x y => decide (x ≤ y)).toArray) os = w2 at *
        go_wp2_with fail
        refine hcomp.mono ?_
        rintro en w3 ⟨rfl, q, rfl⟩
        have HE2 := HE q ((Lib.compact (e.names.mergeSort fun x y => decide (x ≤ y)) ++ List.replicate (k - (Lib.compact (e.names.mergeSort fun x y => decide (x ≤ y))).length) []).toArray)
        generalize putRow encStr (Sort.ahead w2 q) g 0 (Lib.compact (e.names.mergeSort fun x y => decide (x ≤ y)) ++ List.replicate (k - (Lib.compact (e.names.mergeSort fun x y => decide (x ≤ y))).length) []).toArray = w3 at *
        go_wp2_with fail
        go_ret
        exact ⟨_, _, _, rfl, rfl, HE2.out⟩
end Go.Proofs.YtablhmobekmflaaDoor

/-! Plain -/
namespace Go.Proofs.YtablhmobekmflaaDoor
set_option linter.unusedVariables false
set_option linter.unusedSimpArgs false
theorem dec_pos (s : ByteArray) (pos : Nat) (h : pos < s.size) : 1 ≤ (Utf8.decode s pos).2 := by
  by_cases ha : (s[pos]'h).toNat < 128
  · rw [decode_ascii s pos h ha]; exact Nat.le_refl _
  · exact (decode_high s pos h (by omega)).2
def runesAt (s : ByteArray) : Nat → Nat → List Int
  | 0, _ => []
  | f + 1, pos => if pos < s.size then ((Utf8.decode s pos).1 : Int) :: runesAt s f (pos + (Utf8.decode s pos).2) else []
/-- the runes of a string from a place on -/
def runes (s : ByteArray) (pos : Nat) : List Int := runesAt s (s.size - pos) pos
theorem runesAt_fuel (s : ByteArray) : ∀ (f g pos : Nat), s.size - pos ≤ f → s.size - pos ≤ g → runesAt s f pos = runesAt s g pos
  | 0, 0, _, _, _ => rfl
  | 0, g + 1, pos, h, _ => by simp only [runesAt]; rw [if_neg (by omega)]
  | f + 1, 0, pos, _, h => by simp only [runesAt]; rw [if_neg (by omega)]
  | f + 1, g + 1, pos, hf, hg => by
    simp only [runesAt]
    by_cases h : pos < s.size
    · have hw := dec_pos s pos h
      rw [if_pos h, if_pos h, runesAt_fuel s f g _ (by omega) (by omega)]
    · rw [if_neg h, if_neg h]
theorem runes_step (s : ByteArray) (pos : Nat) (h : pos < s.size) : runes s pos = ((Utf8.decode s pos).1 : Int) :: runes s (pos + (Utf8.decode s pos).2) := by
  have hw := dec_pos s pos h
  obtain ⟨f, hf⟩ : ∃ f, s.size - pos = f + 1 := ⟨s.size - pos - 1, by omega⟩
  unfold runes
  rw [hf]
  simp only [runesAt]
  rw [if_pos h, runesAt_fuel s f (s.size - (pos + (Utf8.decode s pos).2)) _ (by omega) (Nat.le_refl _)]
theorem runes_end (s : ByteArray) (pos : Nat) (h : ¬ pos < s.size) : runes s pos = [] := by
  unfold runes
  rw [Nat.sub_eq_zero_of_le (by omega)]
  rfl
/-- the index of a rune in a list, counted from n on; -1 if it is not there -/
def placeL (r : Int) : List Int → Int → Int
  | [], _ => -1
  | x :: l, n => if x = r then n else placeL r l (n + 1)
end Go.Proofs.YtablhmobekmflaaDoor

/-! Char -/
namespace Go.Proofs.YtablhmobekmflaaDoor
set_option linter.unusedVariables false
set_option linter.unusedSimpArgs false
open Go.RowKit
def PlaceRel (s : ByteArray) (r : Int) (w : World) (n : Value) (wr : World) : Prop :=
  ∃ pos k : Nat, k ≤ pos ∧ n = .int .i64 k ∧ wr = w.iter s pos ∧ placeL r (runes s 0) 0 = placeL r (runes s pos) k
set_option maxHeartbeats 400000 in
theorem place_any (s : ByteArray) (r : Int) (w : World) (hs : s.size ≤ 9223372036854775807) :
    Calls Tryd.prog 49 #[.string s, .int .i32 r] w fun e w' => e = .returned (.int .i64 (placeL r (runes s 0) 0)) ∧ Ext w w' := by
  go_enter Tryd.func49, Tryd.ntmps49
  go_wp2
  go_loopw [5] (fun n wr => PlaceRel s r w n wr) (fun _ wr => s.size - wr.iterPos w.heap.size)
  case atStart => exact ⟨0, 0, Nat.le_refl _, rfl, rfl, rfl⟩
  case round =>
    obtain ⟨pos, k, hk, rfl, rfl, hp⟩ := hrel
    have HP := Lib.hid hp
    clear hp
    by_cases hlt : pos < s.size
    · have hn := run_next_any (P := Tryd.prog) w s pos
      have hstep := Lib.hid (runes_step s pos hlt)
      have hw := dec_pos s pos hlt
      go_wp2
      · go_ret
        have he : ((Utf8.decode s pos).1 : Int) = r := by simpa using ‹((((Utf8.decode s pos).1 : Int)) == r) = true›
        exact ⟨ret_int (by rw [HP.out, hstep.out, placeL, if_pos he]), (Ext.refl w).iter s _⟩
      · have he : ¬ ((Utf8.decode s pos).1 : Int) = r := by simpa using ‹((((Utf8.decode s pos).1 : Int)) == r) = false›
        refine ⟨⟨pos + (Utf8.decode s pos).2, k + 1, by omega, by go_num, rfl, ?_⟩, by simp; omega⟩
        rw [HP.out, hstep.out, placeL, if_neg he]
        rfl
    · have hn := run_next_end (P := Tryd.prog) w s pos
      have hend := Lib.hid (runes_end s pos hlt)
      go_wp2
      go_ret
      exact ⟨ret_int (by rw [HP.out, hend.out]; rfl), (Ext.refl w).iter s _⟩
/-- the repertoire, as the text has it -/
def allBytes : ByteArray := ⟨#[32, 33, 34, 35, 36, 37, 38, 39, 40, 41, 42, 43, 44, 45, 46, 47, 48, 49, 50, 51, 52, 53, 54, 55, 56, 57, 58, 59, 60, 61, 62, 63, 64, 65, 66, 67, 68, 69, 70, 71, 72, 73, 74, 75, 76, 77, 78, 79, 80, 81, 82, 83, 84, 85, 86, 87, 88, 89, 90, 91, 92, 93, 94, 95, 96, 97, 98, 99, 100, 101, 102, 103, 104, 105, 106, 107, 108, 109, 110, 111, 112, 113, 114, 115, 116, 117, 118, 119, 120, 121, 122, 123, 124, 125, 126, 194, 161, 194, 162, 194, 163, 194, 164, 194, 165, 194, 166, 194, 167, 194, 169, 194, 171, 194, 174, 194, 176, 194, 183, 194, 187, 194, 189, 194, 191, 195, 128, 195, 129, 195, 130, 195, 131, 195, 132, 195, 133, 195, 134, 195, 135, 195, 136, 195, 137, 195, 138, 195, 139, 195, 140, 195, 141, 195, 142, 195, 143, 195, 145, 195, 146, 195, 147, 195, 148, 195, 149, 195, 150, 195, 152, 195, 153, 195, 154, 195, 155, 195, 156, 195, 159, 195, 160, 195, 161, 195, 162, 195, 163, 195, 164, 195, 165, 195, 166, 195, 167, 195, 168, 195, 169, 195, 170, 195, 171, 195, 172, 195, 173, 195, 174, 195, 175, 195, 177, 195, 178, 195, 179, 195, 180, 195, 181, 195, 182, 195, 184, 195, 185, 195, 186, 195, 187, 195, 188, 197, 146, 197, 147, 226, 128, 148, 226, 128, 152, 226, 128, 153, 226, 128, 156, 226, 128, 157, 226, 128, 162, 226, 128, 166, 226, 132, 162, 226, 153, 170]⟩
/-- the index of a character in the repertoire -/
def idx (r : Int) : Int := if 32 ≤ r ∧ r ≤ 126 then r - 32 else placeL r (runes allBytes 0) 0
set_option maxRecDepth 100000 in
set_option maxHeartbeats 1000000 in
theorem Index_any (r : Int) (w : World) : Calls Tryd.prog 30 #[.int .i32 r] w fun e w' => e = .returned (.int .i64 (idx r)) ∧ Ext w w' := by
  by_cases h1 : 32 ≤ r
  · by_cases h2 : r ≤ 126
    · go_enter Tryd.func30, Tryd.ntmps30
      go_wp2_with fail
      go_ret
      exact ⟨ret_int (by unfold idx; rw [if_pos ⟨h1, h2⟩]), Ext.refl _⟩
    · go_enter Tryd.func30, Tryd.ntmps30
      go_wp2_with fail
      refine (place_any allBytes r w (by decide)).mono ?_
      rintro e w1 ⟨rfl, h1⟩
      go_wp2_with fail
      go_ret
      exact ⟨ret_int (by unfold idx; rw [if_neg (by omega)]), h1⟩
  · go_enter Tryd.func30, Tryd.ntmps30
    go_wp2_with fail
    refine (place_any allBytes r w (by decide)).mono ?_
    rintro e w1 ⟨rfl, h1⟩
    go_wp2_with fail
    go_ret
    exact ⟨ret_int (by unfold idx; rw [if_neg (by omega)]), h1⟩
end Go.Proofs.YtablhmobekmflaaDoor

/-! CharB -/
namespace Go.Proofs.YtablhmobekmflaaDoor
set_option linter.unusedVariables false
set_option linter.unusedSimpArgs false
open Go.RowKit
/-- a string of characters of the repertoire -/
def vld (s : ByteArray) : Bool := Lib.validD s.data.toList && (runes s 0).all fun r => decide (0 ≤ idx r)
theorem Ext.iterAt {w w1 : World} (h : Ext w w1) {k : Nat} (hk : w.heap.size ≤ k) (s : ByteArray) (p : Nat) : Ext w (w1.iterAt k s p) := Lib.below_iterAt h hk s p
theorem Ext.obj {w w1 : World} {k : Nat} {o : Obj} (h : Ext w w1) (hk : w.heap[k]? = some o) : w1.heap[k]? = some o :=
  (h.block k (Array.getElem?_eq_some_iff.1 hk).1).trans hk
theorem ValidString_any (s : ByteArray) (w : World) (hE : Env w) (hs : s.size ≤ 9223372036854775807) :
    Calls Tryd.prog 29 #[.string s] w fun e w' => e = .returned (.bool (Lib.validD s.data.toList)) ∧ Ext w w' :=
  Any.utf8_ValidString Tryd.laysValid s w hs hE.1
def ValidRel (s : ByteArray) (w : World) (g : Nat) (wr : World) : Prop :=
  ∃ pos : Nat, wr.heap[g]? = some (.stringIter s pos) ∧ Ext w wr ∧ ((runes s 0).all fun r => decide (0 ≤ idx r)) = ((runes s pos).all fun r => decide (0 ≤ idx r))
set_option maxHeartbeats 400000 in
theorem Valid_any (s : ByteArray) (w : World) (hE : Env w) (hs : s.size ≤ 9223372036854775807) :
    Calls Tryd.prog 17 #[.string s] w fun e w' => e = .returned (.bool (vld s)) ∧ Ext w w' := by
  cases hv : Lib.validD s.data.toList
  · have HV := Lib.hid hv
    have HF : Hid (vld s = false) := by unfold vld; rw [hv]; rfl
    go_enter Tryd.func17, Tryd.ntmps17
    go_wp2_with fail
    refine (ValidString_any s w hE hs).mono ?_
    rintro e w1 ⟨rfl, h1⟩
    rw [HV.out]
    go_wp2_with fail
    go_ret
    exact ⟨by rw [HF.out]; rfl, h1⟩
  · have HV := Lib.hid hv
    have HF : Hid (vld s = ((runes s 0).all fun r => decide (0 ≤ idx r))) := by unfold vld; rw [hv]; rfl
    clear hv
    go_enter Tryd.func17, Tryd.ntmps17
    go_wp2_with fail
    refine (ValidString_any s w hE hs).mono ?_
    rintro e w1 ⟨rfl, h1⟩
    rw [HV.out]
    go_wp2_with fail
    go_loopw [] (fun wr => ValidRel s w w1.heap.size wr) (fun wr => s.size - wr.iterPos w1.heap.size)
    case atStart => exact ⟨0, w1.iter_heap s 0, h1.iter s 0, rfl⟩
    case round =>
      obtain ⟨pos, hk, hx, hp⟩ := hrel
      have HP := Lib.hid hp
      have HK := Lib.hid hk
      clear hp
      by_cases hlt : pos < s.size
      · have hn := fun ty => Lib.run_next_any_at (P := Tryd.prog) wr _ s pos ty hk hlt
        have hstep := Lib.hid (runes_step s pos hlt)
        have hw := dec_pos s pos hlt
        have hk2 := Lib.hid (Lib.iterAt_heap wr _ s pos (pos + (Utf8.decode s pos).2) hk)
        clear hk
        go_wp2_with fail
        refine (Index_any _ _).mono ?_
        rintro e w2 ⟨rfl, h2⟩
        have hx2 : Ext w w2 := (hx.iterAt h1.size s _).trans h2
        have hk3 := Lib.hid (h2.obj hk2.out)
        by_cases hi : idx ((Utf8.decode s pos).1 : Int) < 0
        · go_wp2_with fail
          go_ret
          exact ⟨by rw [HF.out, HP.out, hstep.out, List.all_cons, decide_eq_false (by omega)]; rfl, hx2⟩
        · go_wp2_with fail
          refine ⟨⟨_, hk3.out, hx2, ?_⟩, ?_⟩
          · rw [HP.out, hstep.out, List.all_cons, decide_eq_true (by omega), Bool.true_and]
          · rw [iterPos_of hk3.out, iterPos_of HK.out]; omega
      · have hn := fun ty => Lib.run_next_end_at (P := Tryd.prog) wr _ s pos ty hk hlt
        have hend := Lib.hid (runes_end s pos hlt)
        clear hk
        go_wp2_with fail
        go_ret
        exact ⟨by rw [HF.out, HP.out, hend.out]; rfl, hx⟩
end Go.Proofs.YtablhmobekmflaaDoor

/-! EdlP -/
namespace Go.Proofs.YtablhmobekmflaaDoor
set_option linter.unusedVariables false
set_option linter.unusedSimpArgs false
open Go.RowKit
/-- the first error of the cuts behind a number and a frame -/
def cutsErr (day : Int) : Int → Int → List Cut → Int
  | _, _, [] => 0
  | la, ou, c :: r => if singleErr c la day ≠ 0 then singleErr c la day else if c.inn < ou then 14 else cutsErr day c.num c.out r
def edlErr (e : Edl) : Int :=
  if vld e.title = false then 10 else if 400 < e.title.size then 9 else if rateOkB e.rate e.drop = false then 13 else if 64 < e.cuts.length then 9 else
    if cutsErr (dayOf e.rate e.drop) 0 0 e.cuts ≠ 0 then cutsErr (dayOf e.rate e.drop) 0 0 e.cuts else if 16 < cnt e.names then 9 else 0
def laAt (l : List Cut) : Nat → Int | 0 => 0 | k + 1 => ((l[k]?).map (·.num)).getD 0
def ouAt (l : List Cut) : Nat → Int | 0 => 0 | k + 1 => ((l[k]?).map (·.out)).getD 0
theorem cuts_step {l : List Cut} {k : Nat} {r : Cut} {day E : Int} (hr : l[k]? = some r) (hP : E = cutsErr day (laAt l k) (ouAt l k) (l.drop k)) :
    (singleErr r (laAt l k) day ≠ 0 → E = singleErr r (laAt l k) day) ∧ (singleErr r (laAt l k) day = 0 → r.inn < ouAt l k → E = 14) ∧
      (singleErr r (laAt l k) day = 0 → ¬ r.inn < ouAt l k → E = cutsErr day (laAt l (k + 1)) (ouAt l (k + 1)) (l.drop (k + 1))) := by
  obtain ⟨hk, hk2⟩ := List.getElem?_eq_some_iff.1 hr
  rw [List.drop_eq_getElem_cons hk, hk2] at hP
  unfold cutsErr at hP
  refine ⟨fun h => ?_, fun h h2 => ?_, fun h h2 => ?_⟩
  · rw [if_pos h] at hP; exact hP
  · rw [if_neg (by omega), if_pos h2] at hP; exact hP
  · rw [if_neg (by omega), if_neg h2] at hP
    rw [hP]
    simp [laAt, ouAt, hr]
theorem single_num {c : Cut} {la day : Int} (h : c.num < 1 ∨ 999 < c.num) : singleErr c la day = 2 := by unfold singleErr; rw [if_pos h]
theorem single_ord {c : Cut} {la day : Int} (h : ¬ (c.num < 1 ∨ 999 < c.num)) (h2 : c.num ≤ la) : singleErr c la day = 8 := by unfold singleErr; rw [if_neg h, if_pos h2]
theorem single_cut {c : Cut} {la day : Int} (h : ¬ (c.num < 1 ∨ 999 < c.num)) (h2 : ¬ c.num ≤ la) : singleErr c la day = cutErr c day := by unfold singleErr; rw [if_neg h, if_neg h2]
theorem cutErr_inn {c : Cut} {day : Int} (h : cutErr c day = 0) : 0 ≤ c.inn := by
  unfold cutErr at h
  repeat' split at h
  all_goals first | omega | (exact absurd h (by decide)) | skip
theorem edl_char {e : Edl} (h : vld e.title = false) : edlErr e = 10 := by unfold edlErr; rw [if_pos h]
theorem edl_title {e : Edl} (h : vld e.title = true) (h1 : 400 < e.title.size) : edlErr e = 9 := by unfold edlErr; rw [if_neg (by simp [h]), if_pos h1]
theorem edl_rate {e : Edl} (h : vld e.title = true) (h1 : ¬ 400 < e.title.size) (h2 : rateOkB e.rate e.drop = false) : edlErr e = 13 := by unfold edlErr; rw [if_neg (by simp [h]), if_neg h1, if_pos h2]
theorem edl_many {e : Edl} (h : vld e.title = true) (h1 : ¬ 400 < e.title.size) (h2 : rateOkB e.rate e.drop = true) (h3 : 64 < e.cuts.length) : edlErr e = 9 := by unfold edlErr; rw [if_neg (by simp [h]), if_neg h1, if_neg (by simp [h2]), if_pos h3]
theorem edl_cuts {e : Edl} {x : Int} (h : vld e.title = true) (h1 : ¬ 400 < e.title.size) (h2 : rateOkB e.rate e.drop = true) (h3 : ¬ 64 < e.cuts.length) (h4 : cutsErr (dayOf e.rate e.drop) 0 0 e.cuts = x) (h5 : x ≠ 0) : edlErr e = x := by
  unfold edlErr; rw [if_neg (by simp [h]), if_neg h1, if_neg (by simp [h2]), if_neg h3, h4, if_pos h5]
theorem edl_reels {e : Edl} (h : vld e.title = true) (h1 : ¬ 400 < e.title.size) (h2 : rateOkB e.rate e.drop = true) (h3 : ¬ 64 < e.cuts.length) (h4 : cutsErr (dayOf e.rate e.drop) 0 0 e.cuts = 0) (h5 : 16 < cnt e.names) : edlErr e = 9 := by
  unfold edlErr; rw [if_neg (by simp [h]), if_neg h1, if_neg (by simp [h2]), if_neg h3, h4, if_neg (by omega), if_pos h5]
theorem edl_ok {e : Edl} (h : vld e.title = true) (h1 : ¬ 400 < e.title.size) (h2 : rateOkB e.rate e.drop = true) (h3 : ¬ 64 < e.cuts.length) (h4 : cutsErr (dayOf e.rate e.drop) 0 0 e.cuts = 0) (h5 : ¬ 16 < cnt e.names) : edlErr e = 0 := by
  unfold edlErr; rw [if_neg (by simp [h]), if_neg h1, if_neg (by simp [h2]), if_neg h3, h4, if_neg (by omega), if_neg h5]
/-- what an accepted list says of its cuts -/
theorem cutsErr_ok {day : Int} : ∀ {l : List Cut} {la ou : Int}, cutsErr day la ou l = 0 → ∀ c ∈ l, cutErr c day = 0 ∧ 1 ≤ c.num ∧ c.num ≤ 999
  | [], _, _, _, c, hc => by cases hc
  | d :: r, la, ou, h, c, hc => by
    unfold cutsErr at h
    split at h
    · omega
    · rename_i h0
      split at h
      · omega
      · rcases List.mem_cons.1 hc with rfl | hc
        · unfold singleErr at h0
          repeat' split at h0
          all_goals first | omega | exact ⟨by omega, by omega, by omega⟩
        · exact cutsErr_ok h c hc
theorem edlErr_ok {e : Edl} (h : edlErr e = 0) : vld e.title = true ∧ ¬ 400 < e.title.size ∧ rateOkB e.rate e.drop = true ∧ ¬ 64 < e.cuts.length ∧ cutsErr (dayOf e.rate e.drop) 0 0 e.cuts = 0 ∧ ¬ 16 < cnt e.names := by
  unfold edlErr at h
  repeat' split at h
  all_goals first | omega | skip
  rename_i h1 h2 h3 h4 h5 h6
  refine ⟨by simpa using h1, h2, by simpa using h3, h4, by omega, h6⟩
theorem cutErr_sane {c : Cut} {day : Int} (h : cutErr c day = 0) (hd : day ≤ 5184000) : c.Sane := by
  unfold cutErr at h
  repeat' split at h
  all_goals first | omega | skip
  rename_i h1 h2 h3 h4 h5
  have := speedB_true (by simpa using h4)
  refine ⟨?_, ?_, ?_, ?_, ?_, ?_, ?_, ?_, ?_⟩ <;> omega
theorem edl_sane {e : Edl} (h : edlErr e = 0) {c : Cut} (hc : c ∈ e.cuts) : c.Sane :=
  cutErr_sane (cutsErr_ok (edlErr_ok h).2.2.2.2.1 c hc).1 (dayOf_bd _ _)
end Go.Proofs.YtablhmobekmflaaDoor

/-! Check -/
namespace Go.Proofs.YtablhmobekmflaaDoor
set_option linter.unusedVariables false
set_option linter.unusedSimpArgs false
open Go.RowKit
def Chk45Rel (w : World) (day : Int) (n : Nat) (l : List Cut) (i : Value) (wr : World) : Prop :=
  ∃ k : Nat, k ≤ n ∧ i = .int .i64 k ∧ Ext w wr ∧ cutsErr day 0 0 l = cutsErr day (laAt l k) (ouAt l k) (l.drop k)
theorem prev_at {w : World} {A : Option Addr} {n : Nat} {l : List Cut} (h : CutsAt w A n l) {k : Nat} (hk : k ≤ n) (h0 : 0 < k) : ∃ b off, A = some ⟨b, off, none⟩ ∧
    w.cell? ⟨b, off + (k - 1) * 7, none⟩ = some (.int .i64 (laAt l k)) ∧ w.cell? ⟨b, off + (k - 1) * 7 + 4, none⟩ = some (.int .i64 (ouAt l k)) := by
  obtain ⟨j, rfl⟩ : ∃ j, k = j + 1 := ⟨k - 1, by omega⟩
  obtain ⟨b, off, c, hA, hc, c0, c1, c2, c3, c4, c5, c6⟩ := h.at7 (i := j) (by omega)
  refine ⟨b, off, hA, ?_, ?_⟩
  · simpa [laAt, hc] using c0
  · simpa [ouAt, hc] using c4
theorem size_list : (Tryd.prog.info? 28).map (·.size) = some 4 := by kernel_rfl
set_option maxRecDepth 100000 in
set_option maxHeartbeats 4000000 in
theorem Check_any (e : Edl) (A : Option Addr) (n c : Nat) (w : World) (hE : Env w) (hl : CutsAt w A n e.cuts) (hn : n ≤ 1000000) (hr0 : 0 ≤ e.rate) (hr1 : e.rate ≤ 255) (ht : e.title.size ≤ 140737488351232) (hf : ∀ c ∈ e.cuts, c.Fits) :
    Calls Tryd.prog 10 #[.agg (e.cells A n c)] w fun en w' => en = .returned (.int .i64 (edlErr e)) ∧ Ext w w' := by
  have HL := Lib.hid hl
  have HLn := Lib.hid hl.len
  have HF := Lib.hid hf
  have HE := Lib.hid hE
  clear hl hf hE
  have h1 := Lib.hid (@edl_char e)
  have h2 := Lib.hid (@edl_title e)
  have h3 := Lib.hid (@edl_rate e)
  have h4 := Lib.hid (@edl_many e)
  have h5 := Lib.hid (fun x => @edl_cuts e x)
  have h6 := Lib.hid (@edl_reels e)
  have h7 := Lib.hid (@edl_ok e)
  have HRE := Lib.hid (fun w' (hx : Ext w w') => Reels_any e A n c w' (HL.out.ext hx) hn)
  obtain ⟨title, rate, drop, cuts⟩ := e
  unfold Edl.cells at *
  dsimp only at *
  have HX0 := Lib.hid ((Ext.refl w).alloc (.cells #[.string title, .int .u8 rate, .bool drop, .slice A n c] 28))
  have HB0 := Lib.hid (Blk.new w 28 #[.string title, .int .u8 rate, .bool drop, .slice A n c])
  go_enter Tryd.func10, Tryd.ntmps10
  go_wp2_with fail
  refine (Valid_any title _ (HE.out.ext HX0.out) (by omega)).mono ?_
  rintro en w1 ⟨rfl, hx1⟩
  have HX1 := Lib.hid (HX0.out.trans hx1)
  have HB1 := Lib.hid (HB0.out.ext hx1)
  have hcell1 := fun o => HB1.out.cell o
  cases hv : vld title
  · have HV := Lib.hid hv
    clear hv
    go_wp2_with fail
    go_ret
    exact ⟨ret_int (by rw [h1.out HV.out]), HX1.out⟩
  have HV := Lib.hid hv
  clear hv h1
  by_cases ht4 : 400 < title.size
  · skip
    go_wp2_with fail
    go_ret
    exact ⟨ret_int (by rw [h2.out HV.out ht4]), HX1.out⟩
  have HT := Lib.hid ht4
  clear h2
  go_wp2_with fail
  refine (TBValid_any rate _ hr0 hr1).mono ?_
  rintro en w2 ⟨rfl, hx2⟩
  have HX2 := Lib.hid (HX1.out.trans hx2)
  have HB2 := Lib.hid (HB1.out.ext hx2)
  have hcell2 := fun o => HB2.out.cell o
  clear hcell1
  cases hok : rOk rate
  · have HO : Hid (rateOkB rate drop = false) := by show _ = _; unfold rateOkB; rw [hok]; rfl
    clear hok
    go_wp2_with fail
    go_ret
    exact ⟨ret_int (by rw [h3.out HV.out HT.out HO.out]), HX2.out⟩
  cases drop
  · have HO : Hid (rateOkB rate false = true) := by show _ = _; unfold rateOkB; rw [hok]; rfl
    clear hok
    have HX3 := HX2
    have HB3 := HB2
    have hcell3 := hcell2
    clear hcell2
    by_cases h64 : 64 < cuts.length
    · have h64' : (64 : Int) < (n : Int) := by have := HLn.out; omega
      go_wp2_with fail
      go_ret
      exact ⟨ret_int (by rw [h4.out HV.out HT.out HO.out h64]), HX3.out⟩
    have h64' : ¬ (64 : Int) < (n : Int) := by have := HLn.out; omega
    have H64 := Lib.hid h64
    clear h64 h3 h4
    go_wp2_with fail
    refine (Day_any rate false _ hr0 hr1).mono ?_
    rintro en w4 ⟨rfl, hx4⟩
    have HX4 := Lib.hid (HX3.out.trans hx4)
    have HB4 := Lib.hid (HB3.out.ext hx4)
    have hcell4 := fun o => HB4.out.cell o
    clear hcell3
    have hd9 := dayOf_bd rate false
    have HD : Hid (∃ day, day = dayOf rate false) := ⟨_, rfl⟩
    generalize dayOf rate false = day at *
    clear HD
    go_wp2_with fail
    go_loopw [45] (fun i wr => Chk45Rel w4 day n cuts i wr) (fun i _ => n - (intOf i).toNat)
    case atStart => exact ⟨0, Nat.zero_le _, rfl, Ext.refl _, by simp [laAt, ouAt]⟩
    case round =>
      obtain ⟨k, hk, rfl, hx, hP⟩ := hrel
      have HXr := Lib.hid (HX4.out.trans hx)
      have HBr := Lib.hid (HB4.out.ext hx)
      have hcellr := fun o => HBr.out.cell o
      clear hcell4
      by_cases hlt : k < n
      · obtain ⟨b, off, r, rfl, hr, c0, c1, c2, c3, c4, c5, c6⟩ := (HL.out.ext HXr.out).at7 hlt
        skip
        have HS := Lib.hid (cuts_step hr hP)
        have hfr : r.Fits := HF.out r (List.mem_of_getElem? hr)
        have HFr := Lib.hid hfr
        have HN1 := Lib.hid (@single_num r (laAt cuts k) day)
        have HN2 := Lib.hid (@single_ord r (laAt cuts k) day)
        have HN3 := Lib.hid (@single_cut r (laAt cuts k) day)
        have HI := Lib.hid (@cutErr_inn r day)
        have HCk := Lib.hid (fun w' => checkCut_any r day w' hfr hd9)
        have HPr := Lib.hid (fun h0 => prev_at (HL.out.ext HXr.out) (k := k) hk h0)
        have HLa0 : Hid (k = 0 → laAt cuts k = 0 ∧ ouAt cuts k = 0) := fun h => by subst h; exact ⟨rfl, rfl⟩
        clear hr hP hfr
        obtain ⟨num, rl, src, inn, out, nn, dd⟩ := r
        have HBc := Lib.hid (Blk.new wr 52 (Cut.cells ⟨num, rl, src, inn, out, nn, dd⟩))
        have HXc := Lib.hid ((Ext.refl wr).alloc (.cells (Cut.cells ⟨num, rl, src, inn, out, nn, dd⟩) 52))
        unfold Cut.cells at HBc HXc HCk
        dsimp only at *
        generalize laAt cuts k = la at *
        generalize ouAt cuts k = ou at *
        by_cases hn1 : num < 1
        · go_wp2_with fail
          go_ret
          exact ⟨ret_int (by rw [h5.out 2 HV.out HT.out HO.out H64.out (by rw [HS.out.1 (by rw [HN1.out (.inl hn1)]; decide), HN1.out (.inl hn1)]) (by decide)]), HXr.out.trans HXc.out⟩
        by_cases hn2 : 999 < num
        · go_wp2_with fail
          go_ret
          exact ⟨ret_int (by rw [h5.out 2 HV.out HT.out HO.out H64.out (by rw [HS.out.1 (by rw [HN1.out (.inr hn2)]; decide), HN1.out (.inr hn2)]) (by decide)]), HXr.out.trans HXc.out⟩
        have HNN : Hid (¬ (num < 1 ∨ 999 < num)) := by show ¬ _; omega
        by_cases hk0 : k = 0
        · obtain ⟨rfl, rfl⟩ := HLa0.out hk0
          subst hk0
          simp only [Nat.zero_mul, Nat.add_zero] at c0 c1 c2 c3 c4 c5 c6
          have HOr : Hid (¬ num ≤ 0) := by show ¬ _; omega
          go_wp2_with fail
          go_quiet (fail)
          go_wp2_with (refine wpList_loadB rfl 52 (.tmp 5) rfl _ 52 _ _ (by exact rfl) (by exact HBc.out.ext ((Ext.refl _).drewN _)) Tryd.underlying52 rfl (by exact size_cut) ?_)
          refine (HCk.out _).mono ?_
          rintro en w5 ⟨rfl, hx5⟩
          have HX5 := Lib.hid ((HXc.out.drewN _).trans hx5)
          have HB5 := Lib.hid ((HBc.out.ext ((Ext.refl _).drewN _)).ext hx5)
          have hcell5 := fun o => HB5.out.cell o
          have HSg := Lib.hid (HN3.out HNN.out HOr.out)
          by_cases hce : cutErr ⟨num, rl, src, inn, out, nn, dd⟩ day = 0
          · have HI0 := HI.out hce
            have HG := Lib.hid (HS.out.2.2 (HSg.out.trans hce) (by omega))
            rw [hce]
            go_wp2_with fail
            go_quiet (fail)
            go_wp2_with fail
            exact ⟨⟨1, by omega, by go_num, hx.trans (HX5.out.drewN _), HG.out⟩, by simp [intOf]; omega⟩
          · have hne : (cutErr ⟨num, rl, src, inn, out, nn, dd⟩ day != 0) = true := by simpa using hce
            have HC := Lib.hid hce
            have HG := Lib.hid (HS.out.1 (by rw [HSg.out]; exact hce))
            clear hce
            go_wp2_with fail
            go_ret
            exact ⟨ret_int (by rw [h5.out _ HV.out HT.out HO.out H64.out HG.out (by rw [HSg.out]; exact HC.out), HSg.out]), HXr.out.trans HX5.out⟩
        · obtain ⟨b', off', hA, p0, p4⟩ := HPr.out (by omega)
          cases hA
          have hki : (0 : Int) < (k : Int) := by omega
          have hkp : 0 < k := by omega
          have hcc := fun o => HBc.out.cell o
          have hcl := fun o => (HBr.out.ext HXc.out).cell o
          have pp0 := HXc.out.cell p0
          have hk1 : ((k : Int) - 1).toNat = k - 1 := by omega
          have hk2 : (k : Int) - 1 = ((k - 1 : Nat) : Int) := by omega
          by_cases hor : num ≤ la
          · go_wp2_with fail
            go_quiet (fail)
            go_wp2_with fail
            go_ret
            exact ⟨ret_int (by rw [h5.out 8 HV.out HT.out HO.out H64.out (by rw [HS.out.1 (by rw [HN2.out HNN.out hor]; decide), HN2.out HNN.out hor]) (by decide)]), (HXr.out.trans HXc.out).drewN _⟩
          · go_wp2_with fail
            go_quiet (fail)
            go_wp2_with (refine wpList_loadB rfl 52 (.tmp 5) rfl _ 52 _ _ (by exact rfl) (by exact HBc.out.ext ((Ext.refl _).drewN _)) Tryd.underlying52 rfl (by exact size_cut) ?_)
            refine (HCk.out _).mono ?_
            rintro en w5 ⟨rfl, hx5⟩
            have HX5 := Lib.hid ((HXc.out.drewN _).trans hx5)
            have HB5 := Lib.hid ((HBc.out.ext ((Ext.refl _).drewN _)).ext hx5)
            have HBl := Lib.hid (HBr.out.ext HX5.out)
            have hcell5 := fun o => HB5.out.cell o
            have hcelll := fun o => HBl.out.cell o
            have q0 := HX5.out.cell p0
            have q4 := HX5.out.cell p4
            have HSg := Lib.hid (HN3.out HNN.out hor)
            clear p0 p4 hcellr hcc hcl pp0
            by_cases hce : cutErr ⟨num, rl, src, inn, out, nn, dd⟩ day = 0
            · rw [hce]
              by_cases hov : inn < ou
              · have HG := Lib.hid (HS.out.2.1 (HSg.out.trans hce) hov)
                go_wp2_with fail
                go_quiet (fail)
                go_wp2_with fail
                go_ret
                exact ⟨ret_int (by rw [h5.out 14 HV.out HT.out HO.out H64.out HG.out (by decide)]), (HXr.out.trans HX5.out).drewN _⟩
              · have HG := Lib.hid (HS.out.2.2 (HSg.out.trans hce) (by omega))
                go_wp2_with fail
                go_quiet (fail)
                go_wp2_with fail
                exact ⟨⟨k + 1, by omega, by go_num, hx.trans (HX5.out.drewN _), HG.out⟩, by simp [intOf]; omega⟩
            · have hne : (cutErr ⟨num, rl, src, inn, out, nn, dd⟩ day != 0) = true := by simpa using hce
              have HC := Lib.hid hce
              have HG := Lib.hid (HS.out.1 (by rw [HSg.out]; exact hce))
              clear hce
              go_wp2_with fail
              go_ret
              exact ⟨ret_int (by rw [h5.out _ HV.out HT.out HO.out H64.out HG.out (by rw [HSg.out]; exact HC.out), HSg.out]), HXr.out.trans HX5.out⟩
      · have hkn : k = n := by omega
        subst hkn
        have HZ : Hid (cutsErr day 0 0 cuts = 0) := by
          show _ = _
          rw [hP, List.drop_eq_nil_of_le (by have := HLn.out; omega)]
          rfl
        clear hP
        go_wp2_with (refine wpList_loadB rfl 28 (.tmp 1) rfl _ 28 _ _ (by exact rfl) (by exact HBr.out) Tryd.underlying28 rfl (by exact size_list) ?_)
        refine (HRE.out _ HXr.out).mono ?_
        rintro en w5 ⟨A5, m, c5, rfl, hm, hx5⟩
        have HM := Lib.hid hm
        clear hm
        by_cases h16 : 16 < m
        · have h16' : (16 : Int) < (m : Int) := by omega
          go_wp2_with fail
          go_ret
          exact ⟨ret_int (by rw [h6.out HV.out HT.out HO.out H64.out HZ.out (by rw [← HM.out]; exact h16)]), HXr.out.trans hx5⟩
        · have h16' : ¬ (16 : Int) < (m : Int) := by omega
          go_wp2_with fail
          go_ret
          exact ⟨ret_int (by rw [h7.out HV.out HT.out HO.out H64.out HZ.out (by rw [← HM.out]; exact h16)]), HXr.out.trans hx5⟩
  · go_wp2_with fail
    refine (CanDrop_any rate _ hr0 hr1).mono ?_
    rintro en w3 ⟨rfl, hx3⟩
    have HX3 := Lib.hid (HX2.out.trans hx3)
    have HB3 := Lib.hid (HB2.out.ext hx3)
    have hcell3 := fun o => HB3.out.cell o
    clear hcell2
    cases hdr : rDrop rate
    · have HO : Hid (rateOkB rate true = false) := by show _ = _; unfold rateOkB; rw [hok, hdr]; rfl
      clear hok hdr
      go_wp2_with fail
      go_ret
      exact ⟨ret_int (by rw [h3.out HV.out HT.out HO.out]), HX3.out⟩
    have HO : Hid (rateOkB rate true = true) := by show _ = _; unfold rateOkB; rw [hok, hdr]; rfl
    clear hok hdr
    by_cases h64 : 64 < cuts.length
    · have h64' : (64 : Int) < (n : Int) := by have := HLn.out; omega
      go_wp2_with fail
      go_ret
      exact ⟨ret_int (by rw [h4.out HV.out HT.out HO.out h64]), HX3.out⟩
    have h64' : ¬ (64 : Int) < (n : Int) := by have := HLn.out; omega
    have H64 := Lib.hid h64
    clear h64 h3 h4
    go_wp2_with fail
    refine (Day_any rate true _ hr0 hr1).mono ?_
    rintro en w4 ⟨rfl, hx4⟩
    have HX4 := Lib.hid (HX3.out.trans hx4)
    have HB4 := Lib.hid (HB3.out.ext hx4)
    have hcell4 := fun o => HB4.out.cell o
    clear hcell3
    have hd9 := dayOf_bd rate true
    have HD : Hid (∃ day, day = dayOf rate true) := ⟨_, rfl⟩
    generalize dayOf rate true = day at *
    clear HD
    go_wp2_with fail
    go_loopw [45] (fun i wr => Chk45Rel w4 day n cuts i wr) (fun i _ => n - (intOf i).toNat)
    case atStart => exact ⟨0, Nat.zero_le _, rfl, Ext.refl _, by simp [laAt, ouAt]⟩
    case round =>
      obtain ⟨k, hk, rfl, hx, hP⟩ := hrel
      have HXr := Lib.hid (HX4.out.trans hx)
      have HBr := Lib.hid (HB4.out.ext hx)
      have hcellr := fun o => HBr.out.cell o
      clear hcell4
      by_cases hlt : k < n
      · obtain ⟨b, off, r, rfl, hr, c0, c1, c2, c3, c4, c5, c6⟩ := (HL.out.ext HXr.out).at7 hlt
        skip
        have HS := Lib.hid (cuts_step hr hP)
        have hfr : r.Fits := HF.out r (List.mem_of_getElem? hr)
        have HFr := Lib.hid hfr
        have HN1 := Lib.hid (@single_num r (laAt cuts k) day)
        have HN2 := Lib.hid (@single_ord r (laAt cuts k) day)
        have HN3 := Lib.hid (@single_cut r (laAt cuts k) day)
        have HI := Lib.hid (@cutErr_inn r day)
        have HCk := Lib.hid (fun w' => checkCut_any r day w' hfr hd9)
        have HPr := Lib.hid (fun h0 => prev_at (HL.out.ext HXr.out) (k := k) hk h0)
        have HLa0 : Hid (k = 0 → laAt cuts k = 0 ∧ ouAt cuts k = 0) := fun h => by subst h; exact ⟨rfl, rfl⟩
        clear hr hP hfr
        obtain ⟨num, rl, src, inn, out, nn, dd⟩ := r
        have HBc := Lib.hid (Blk.new wr 52 (Cut.cells ⟨num, rl, src, inn, out, nn, dd⟩))
        have HXc := Lib.hid ((Ext.refl wr).alloc (.cells (Cut.cells ⟨num, rl, src, inn, out, nn, dd⟩) 52))
        unfold Cut.cells at HBc HXc HCk
        dsimp only at *
        generalize laAt cuts k = la at *
        generalize ouAt cuts k = ou at *
        by_cases hn1 : num < 1
        · go_wp2_with fail
          go_ret
          exact ⟨ret_int (by rw [h5.out 2 HV.out HT.out HO.out H64.out (by rw [HS.out.1 (by rw [HN1.out (.inl hn1)]; decide), HN1.out (.inl hn1)]) (by decide)]), HXr.out.trans HXc.out⟩
        by_cases hn2 : 999 < num
        · go_wp2_with fail
          go_ret
          exact ⟨ret_int (by rw [h5.out 2 HV.out HT.out HO.out H64.out (by rw [HS.out.1 (by rw [HN1.out (.inr hn2)]; decide), HN1.out (.inr hn2)]) (by decide)]), HXr.out.trans HXc.out⟩
        have HNN : Hid (¬ (num < 1 ∨ 999 < num)) := by show ¬ _; omega
        by_cases hk0 : k = 0
        · obtain ⟨rfl, rfl⟩ := HLa0.out hk0
          subst hk0
          simp only [Nat.zero_mul, Nat.add_zero] at c0 c1 c2 c3 c4 c5 c6
          have HOr : Hid (¬ num ≤ 0) := by show ¬ _; omega
          go_wp2_with fail
          go_quiet (fail)
          go_wp2_with (refine wpList_loadB rfl 52 (.tmp 5) rfl _ 52 _ _ (by exact rfl) (by exact HBc.out.ext ((Ext.refl _).drewN _)) Tryd.underlying52 rfl (by exact size_cut) ?_)
          refine (HCk.out _).mono ?_
          rintro en w5 ⟨rfl, hx5⟩
          have HX5 := Lib.hid ((HXc.out.drewN _).trans hx5)
          have HB5 := Lib.hid ((HBc.out.ext ((Ext.refl _).drewN _)).ext hx5)
          have hcell5 := fun o => HB5.out.cell o
          have HSg := Lib.hid (HN3.out HNN.out HOr.out)
          by_cases hce : cutErr ⟨num, rl, src, inn, out, nn, dd⟩ day = 0
          · have HI0 := HI.out hce
            have HG := Lib.hid (HS.out.2.2 (HSg.out.trans hce) (by omega))
            rw [hce]
            go_wp2_with fail
            go_quiet (fail)
            go_wp2_with fail
            exact ⟨⟨1, by omega, by go_num, hx.trans (HX5.out.drewN _), HG.out⟩, by simp [intOf]; omega⟩
          · have hne : (cutErr ⟨num, rl, src, inn, out, nn, dd⟩ day != 0) = true := by simpa using hce
            have HC := Lib.hid hce
            have HG := Lib.hid (HS.out.1 (by rw [HSg.out]; exact hce))
            clear hce
            go_wp2_with fail
            go_ret
            exact ⟨ret_int (by rw [h5.out _ HV.out HT.out HO.out H64.out HG.out (by rw [HSg.out]; exact HC.out), HSg.out]), HXr.out.trans HX5.out⟩
        · obtain ⟨b', off', hA, p0, p4⟩ := HPr.out (by omega)
          cases hA
          have hki : (0 : Int) < (k : Int) := by omega
          have hkp : 0 < k := by omega
          have hcc := fun o => HBc.out.cell o
          have hcl := fun o => (HBr.out.ext HXc.out).cell o
          have pp0 := HXc.out.cell p0
          have hk1 : ((k : Int) - 1).toNat = k - 1 := by omega
          have hk2 : (k : Int) - 1 = ((k - 1 : Nat) : Int) := by omega
          by_cases hor : num ≤ la
          · go_wp2_with fail
            go_quiet (fail)
            go_wp2_with fail
            go_ret
            exact ⟨ret_int (by rw [h5.out 8 HV.out HT.out HO.out H64.out (by rw [HS.out.1 (by rw [HN2.out HNN.out hor]; decide), HN2.out HNN.out hor]) (by decide)]), (HXr.out.trans HXc.out).drewN _⟩
          · go_wp2_with fail
            go_quiet (fail)
            go_wp2_with (refine wpList_loadB rfl 52 (.tmp 5) rfl _ 52 _ _ (by exact rfl) (by exact HBc.out.ext ((Ext.refl _).drewN _)) Tryd.underlying52 rfl (by exact size_cut) ?_)
            refine (HCk.out _).mono ?_
            rintro en w5 ⟨rfl, hx5⟩
            have HX5 := Lib.hid ((HXc.out.drewN _).trans hx5)
            have HB5 := Lib.hid ((HBc.out.ext ((Ext.refl _).drewN _)).ext hx5)
            have HBl := Lib.hid (HBr.out.ext HX5.out)
            have hcell5 := fun o => HB5.out.cell o
            have hcelll := fun o => HBl.out.cell o
            have q0 := HX5.out.cell p0
            have q4 := HX5.out.cell p4
            have HSg := Lib.hid (HN3.out HNN.out hor)
            clear p0 p4 hcellr hcc hcl pp0
            by_cases hce : cutErr ⟨num, rl, src, inn, out, nn, dd⟩ day = 0
            · rw [hce]
              by_cases hov : inn < ou
              · have HG := Lib.hid (HS.out.2.1 (HSg.out.trans hce) hov)
                go_wp2_with fail
                go_quiet (fail)
                go_wp2_with fail
                go_ret
                exact ⟨ret_int (by rw [h5.out 14 HV.out HT.out HO.out H64.out HG.out (by decide)]), (HXr.out.trans HX5.out).drewN _⟩
              · have HG := Lib.hid (HS.out.2.2 (HSg.out.trans hce) (by omega))
                go_wp2_with fail
                go_quiet (fail)
                go_wp2_with fail
                exact ⟨⟨k + 1, by omega, by go_num, hx.trans (HX5.out.drewN _), HG.out⟩, by simp [intOf]; omega⟩
            · have hne : (cutErr ⟨num, rl, src, inn, out, nn, dd⟩ day != 0) = true := by simpa using hce
              have HC := Lib.hid hce
              have HG := Lib.hid (HS.out.1 (by rw [HSg.out]; exact hce))
              clear hce
              go_wp2_with fail
              go_ret
              exact ⟨ret_int (by rw [h5.out _ HV.out HT.out HO.out H64.out HG.out (by rw [HSg.out]; exact HC.out), HSg.out]), HXr.out.trans HX5.out⟩
      · have hkn : k = n := by omega
        subst hkn
        have HZ : Hid (cutsErr day 0 0 cuts = 0) := by
          show _ = _
          rw [hP, List.drop_eq_nil_of_le (by have := HLn.out; omega)]
          rfl
        clear hP
        go_wp2_with (refine wpList_loadB rfl 28 (.tmp 1) rfl _ 28 _ _ (by exact rfl) (by exact HBr.out) Tryd.underlying28 rfl (by exact size_list) ?_)
        refine (HRE.out _ HXr.out).mono ?_
        rintro en w5 ⟨A5, m, c5, rfl, hm, hx5⟩
        have HM := Lib.hid hm
        clear hm
        by_cases h16 : 16 < m
        · have h16' : (16 : Int) < (m : Int) := by omega
          go_wp2_with fail
          go_ret
          exact ⟨ret_int (by rw [h6.out HV.out HT.out HO.out H64.out HZ.out (by rw [← HM.out]; exact h16)]), HXr.out.trans hx5⟩
        · have h16' : ¬ (16 : Int) < (m : Int) := by omega
          go_wp2_with fail
          go_ret
          exact ⟨ret_int (by rw [h7.out HV.out HT.out HO.out H64.out HZ.out (by rw [← HM.out]; exact h16)]), HXr.out.trans hx5⟩
end Go.Proofs.YtablhmobekmflaaDoor

/-! CharR -/
namespace Go.Proofs.YtablhmobekmflaaDoor
set_option linter.unusedVariables false
set_option linter.unusedSimpArgs false
open Go.RowKit
theorem bad_runes (s : ByteArray) : ∀ (f pos : Nat), s.size - pos ≤ f → Lib.validD (s.data.toList.drop pos) = false → ((runes s pos).all fun r => decide (0 ≤ idx r)) = false
  | f, pos, hf, hv => by
    by_cases hlt : pos < s.size
    · have hl : s.data.toList.length = s.size := by simp
      have hne : s.data.toList.drop pos ≠ [] := by
        intro h
        have := congrArg List.length h
        rw [List.length_drop, hl] at this
        simp at this
        omega
      rw [Lib.validD_step _ hne, Lib.decodeL_drop, List.drop_drop] at hv
      rw [runes_step s pos hlt, List.all_cons]
      have hw := dec_pos s pos hlt
      by_cases hc : (Utf8.decode s pos).1 = 65533 ∧ (Utf8.decode s pos).2 = 1
      · rw [hc.1]
        have : decide (0 ≤ idx ((65533 : Nat) : Int)) = false := by decide +kernel
        rw [this]; rfl
      · rw [if_neg hc] at hv
        match f, hf with
        | 0, hf => omega
        | f + 1, hf => rw [bad_runes s f (pos + (Utf8.decode s pos).2) (by omega) (by rw [Nat.add_comm] at hv; rw [Nat.add_comm]; exact hv), Bool.and_false]
    · have hl : s.data.toList.length = s.size := by simp
      have : s.data.toList.drop pos = [] := List.drop_eq_nil_of_le (by omega)
      rw [this, Lib.validD_nil] at hv
      cases hv
/-- a text that is not valid has a character that is none -/
theorem vld_runes (s : ByteArray) : vld s = ((runes s 0).all fun r => decide (0 ≤ idx r)) := by
  unfold vld
  cases hv : Lib.validD s.data.toList
  · rw [bad_runes s s.size 0 (by omega) (by simpa using hv)]; rfl
  · rfl
end Go.Proofs.YtablhmobekmflaaDoor

/-! RateR -/
namespace Go.Proofs.YtablhmobekmflaaDoor
set_option linter.unusedVariables false
set_option linter.unusedSimpArgs false
open Go.RowKit
end Go.Proofs.YtablhmobekmflaaDoor

/-! ReelsR -/
namespace Go.Proofs.YtablhmobekmflaaDoor
set_option linter.unusedVariables false
set_option linter.unusedSimpArgs false
open Go.RowKit Go.Shelf Go.Sort
def strF (s : ByteArray) : List Value := [.string s]
def bsL (os : List ByteArray) : List Bs := os.map (·.data.toList)
def RReelsRel (w w0 : World) (n : Nat) (l : List Cut) (v i : Value) (wr : World) : Prop :=
  ∃ (k : Nat) (os : List ByteArray), k ≤ n ∧ i = .int .i64 k ∧ Ext w0 wr ∧ Ext w wr ∧ os.length ≤ k ∧ wr.ownsRow w0.heap.size 9 1 v os.length (os.flatMap strF) ∧ (bsL os).Pairwise (· < ·) ∧ ∀ x, x ∈ bsL os ↔ x ∈ (l.take k).map fun c => c.reel.data.toList
/-- the inner loop: all names ahead of place j are less -/
def RInRel (w2 : World) (os : List ByteArray) (x : ByteArray) (v : Value) (wr : World) : Prop :=
  ∃ j : Nat, j ≤ os.length ∧ v = .int .i64 j ∧ Ext w2 wr ∧ w2.heap.size = wr.heap.size ∧ ∀ i y, i < j → (bsL os)[i]? = some y → y < x.data.toList
end Go.Proofs.YtablhmobekmflaaDoor

/-! CheckR -/
namespace Go.Proofs.YtablhmobekmflaaDoor
set_option linter.unusedVariables false
set_option linter.unusedSimpArgs false
open Go.RowKit
def RCheckRel (w : World) (day : Int) (n : Nat) (l : List Cut) (v4 v5 i : Value) (wr : World) : Prop :=
  ∃ k : Nat, k ≤ n ∧ i = .int .i64 k ∧ v4 = .int .i64 (laAt l k) ∧ v5 = .int .i64 (ouAt l k) ∧ Ext w wr ∧ cutsErr day 0 0 l = cutsErr day (laAt l k) (ouAt l k) (l.drop k)
theorem rsize_list : (Tryd.prog.info? 25).map (·.size) = some 4 := by kernel_rfl
end Go.Proofs.YtablhmobekmflaaDoor
