/- Laid together: The walks of the reference's charset: runes, Len. The walks of charset.Chars and of the reference's, at valid strings. The walks of the reference's rows: Valid, Len, Plain. Screens of characters, the frames at which they change, shows, overlaps: plainly. No program in sight. -/
import Derived.Test.YtajbhfmdmajpmaaGreatDoorPk08
import Derived.Test.YtajbhfmdmajpmaaGreatDoorPk03
import Derived.Test.YtajbhfmdmajpmaaGreatDoorPk02
import Derived.Test.YtajbhfmdmajpmaaGreatDoorPk01

/-! RuneR -/
namespace Go.Proofs.YtajbhfmdmajpmaaGreatDoor
set_option linter.unusedVariables false
set_option linter.unusedSimpArgs false
open Go.RowKit
theorem info_rune : (Tryz.prog.info? 21).map (fun i => (i.zero, i.size, i.bytes)) = some (some (.int .i32 0), 1, 4) := by kernel_rfl
theorem runesAt_count (s : ByteArray) : ∀ f pos, Lib.runeCountFrom s f pos = (runesAt s f pos).length
  | 0, _ => rfl
  | f + 1, pos => by
    unfold Lib.runeCountFrom runesAt
    split
    · rw [runesAt_count s f, List.length_cons]; omega
    · rfl
theorem runes_count (s : ByteArray) : Lib.runeCount s = (runes s 0).length := runesAt_count s s.size 0
theorem own_iterAt {w : World} {base : Nat} {e : TypeId} {size : Nat} {v : Value} {n : Nat} {xs : List Value} (h : w.ownsRow base e size v n xs) {k : Nat} (hk : k < base) (s : ByteArray) (p : Nat) : (w.iterAt k s p).ownsRow base e size v n xs := by
  obtain ⟨h1, h2⟩ := h
  refine ⟨h1, ?_⟩
  rcases h2 with h2 | ⟨g, cap, cur, a, b, c, d⟩
  · exact .inl h2
  · exact .inr ⟨g, cap, cur, a, b, by rw [Lib.iterAt_other _ _ _ _ _ (by omega)]; exact c, d⟩
def RunesRel (s : ByteArray) (w : World) (g : Nat) (v : Value) (wr : World) : Prop :=
  ∃ (pos : Nat) (l : List Int), wr.heap[g]? = some (.stringIter s pos) ∧ Ext w wr ∧ runes s 0 = l ++ runes s pos ∧ l.length ≤ pos ∧ wr.ownsRow (g + 1) 21 1 v l.length (l.flatMap fun x => [Value.int .i32 x])
def RunesAt (w : World) (A : Option Addr) (n : Nat) (l : List Int) : Prop := Sl w 1 (Cells fun x => [.int .i32 x]) A n l
def RunesPost (s : ByteArray) (w : World) (en : Ending) (w' : World) : Prop := ∃ A n c, en = .returned (.slice A n c) ∧ RunesAt w' A n (runes s 0) ∧ n ≤ c ∧ Ext w w'
set_option maxRecDepth 100000 in
set_option maxHeartbeats 1000000 in
theorem R8runes_any (s : ByteArray) (w : World) (hs : s.size ≤ 35184372088831) :
    Calls Tryz.prog 155 #[.string s] w (RunesPost s w) := by
  have h1 := Ext.refl w
  go_enter Tryz.func155, Tryz.ntmps155
  go_wp2_with fail
  go_loopw [3] (fun v wr => RunesRel s w w.heap.size v wr) (fun _ wr => s.size - wr.iterPos w.heap.size)
  case atStart => exact ⟨0, [], w.iter_heap s 0, h1.iter s 0, rfl, Nat.le_refl _, ⟨rfl, .inl ⟨rfl, rfl⟩⟩⟩
  case round =>
    obtain ⟨pos, l, hk, hx, hp, hle, hown⟩ := hrel
    have hpos0 := Lib.hid (iterPos_of hk)
    have HP := Lib.hid hp
    clear hp
    by_cases hlt : pos < s.size
    · have hn := fun ty => Lib.run_next_any_at (P := Tryz.prog) wr _ s pos ty hk hlt
      have hstep := Lib.hid (runes_step s pos hlt)
      have hw := dec_pos s pos hlt
      have hk2 := Lib.iterAt_heap wr _ s pos (pos + (Utf8.decode s pos).2) hk
      have hx2 := hx.iterAt (Nat.le_refl _) s (pos + (Utf8.decode s pos).2)
      have hown2 := own_iterAt hown (k := w.heap.size) (by omega) s (pos + (Utf8.decode s pos).2)
      obtain ⟨W1, hW1⟩ : ∃ W1, W1 = wr.iterAt w.heap.size s (pos + (Utf8.decode s pos).2) := ⟨_, rfl⟩
      rw [← hW1] at hn hk2 hx2 hown2
      have hlt9 : w.heap.size < W1.heap.size := (Array.getElem?_eq_some_iff.1 hk2).1
      clear hW1 hk hown hx
      have HK := Lib.hid hk2
      clear hk2
      go_wp2_with (at_builtin; refine wpList_append1 rfl (.tmp 11) (.tmp 13) 160 rfl info_rune Tryz.underlying160 rfl (by decide) (hown2.alloc _) (by exact rfl) W1.heap.size _ (by exact rfl) (by exact Blk.new' rfl) (by exact rfl) (by simp [Value.oneCell']) (by omega) (by simp [maxLen]; omega) (by simp; omega) ?_; intro v' w3 hown3 hgr)
      have hk3 : w3.heap[w.heap.size]? = some (.stringIter s (pos + (Utf8.decode s pos).2)) := by
        rw [hgr.block w.heap.size (by simp; omega) (fun h => by have := own_lt hown2 _ h.symm; omega), Below.heap_alloc _ _ _ hlt9]
        exact HK.out
      refine ⟨⟨pos + (Utf8.decode s pos).2, l ++ [((Utf8.decode s pos).1 : Int)], hk3, (hx2.alloc _).grown hgr (fun q hq => by have := own_lt hown2 q hq; omega), ?_, ?_, ?_⟩, ?_⟩
      · rw [HP.out, hstep.out]; simp
      · rw [List.length_append, List.length_singleton]; omega
      · rw [List.length_append, List.flatMap_append]; exact hown3
      · rw [iterPos_of hk3, hpos0.out]; omega
    · have hn := fun ty => Lib.run_next_end_at (P := Tryz.prog) wr _ s pos ty hk hlt
      have hl : runes s 0 = l := by rw [HP.out, runes_end s pos hlt]; simp
      obtain ⟨A, c, rfl, hc, _, hsl, _⟩ := own_sl (f := fun x : Int => [Value.int .i32 x]) (size := 1) (fun _ => rfl) rfl hown
      have HL := Lib.hid hl
      have HX := Lib.hid hx
      clear hl hx hown HP
      go_wp2_with fail
      go_ret
      exact ⟨A, l.length, c, rfl, by rw [HL.out]; exact hsl, hc, HX.out⟩
set_option maxHeartbeats 400000 in
theorem R8Len_any (s : ByteArray) (w : World) (hs : s.size ≤ 35184372088831) :
    Calls Tryz.prog 142 #[.string s] w fun e w' => e = .returned (.int .i64 (clen s)) ∧ Ext w w' := by
  cases hv : vld s
  · have HV := Lib.hid hv
    clear hv
    go_enter Tryz.func142, Tryz.ntmps142
    go_wp2_with fail
    refine (RValid_any s _ (by omega)).mono ?_
    rintro e w1 ⟨rfl, hx1⟩
    rw [HV.out]
    go_wp2_with fail
    go_ret
    exact ⟨ret_int (by unfold clen; rw [HV.out]; rfl), hx1⟩
  · have HV := Lib.hid hv
    clear hv
    go_enter Tryz.func142, Tryz.ntmps142
    go_wp2_with fail
    refine (RValid_any s _ (by omega)).mono ?_
    rintro e w1 ⟨rfl, hx1⟩
    rw [HV.out]
    go_wp2_with fail
    refine (R8runes_any s _ hs).mono ?_
    rintro e w2 ⟨A, n, c, rfl, hr, hc, hx2⟩
    go_wp2_with fail
    go_ret
    exact ⟨ret_int (by unfold clen; rw [HV.out, runes_count, ← hr.len]; rfl), hx1.trans hx2⟩
end Go.Proofs.YtajbhfmdmajpmaaGreatDoor

/-! ChD -/
namespace Go.Proofs.YtajbhfmdmajpmaaGreatDoor
set_option linter.unusedVariables false
set_option linter.unusedSimpArgs false
open Go.RowKit
set_option maxRecDepth 100000 in
set_option maxHeartbeats 1000000 in
theorem Chars_any (s : ByteArray) (w : World) (hE : Env w) (hs : s.size ≤ 35184372088831) (hv : vld s = true) :
    Calls Tryz.prog 118 #[.string s] w (RunesPost s w) := by
  have HV := Lib.hid (Valid_any s w hE (by omega))
  rw [hv] at HV
  clear hv
  go_enter Tryz.func118, Tryz.ntmps118
  go_wp2_with fail
  refine HV.out.mono ?_
  rintro en w0 ⟨rfl, hx0⟩
  have HX0 := Lib.hid hx0
  have h1 := Ext.refl w0
  clear HV hx0
  go_wp2_with fail
  go_loopw [3] (fun v wr => RunesRel s w0 w0.heap.size v wr) (fun _ wr => s.size - wr.iterPos w0.heap.size)
  case atStart => exact ⟨0, [], w0.iter_heap s 0, h1.iter s 0, rfl, Nat.le_refl _, ⟨rfl, .inl ⟨rfl, rfl⟩⟩⟩
  case round =>
    obtain ⟨pos, l, hk, hx, hp, hle, hown⟩ := hrel
    have hpos0 := Lib.hid (iterPos_of hk)
    have HP := Lib.hid hp
    clear hp
    by_cases hlt : pos < s.size
    · have hn := fun ty => Lib.run_next_any_at (P := Tryz.prog) wr _ s pos ty hk hlt
      have hstep := Lib.hid (runes_step s pos hlt)
      have hw := dec_pos s pos hlt
      have hk2 := Lib.iterAt_heap wr _ s pos (pos + (Utf8.decode s pos).2) hk
      have hx2 := hx.iterAt (Nat.le_refl _) s (pos + (Utf8.decode s pos).2)
      have hown2 := own_iterAt hown (k := w0.heap.size) (by omega) s (pos + (Utf8.decode s pos).2)
      obtain ⟨W1, hW1⟩ : ∃ W1, W1 = wr.iterAt w0.heap.size s (pos + (Utf8.decode s pos).2) := ⟨_, rfl⟩
      rw [← hW1] at hn hk2 hx2 hown2
      have hlt9 : w0.heap.size < W1.heap.size := (Array.getElem?_eq_some_iff.1 hk2).1
      clear hW1 hk hown hx
      have HK := Lib.hid hk2
      clear hk2
      go_wp2_with (at_builtin; refine wpList_append1 rfl (.tmp 14) (.tmp 16) 160 rfl info_rune Tryz.underlying160 rfl (by decide) (hown2.alloc _) (by exact rfl) W1.heap.size _ (by exact rfl) (by exact Blk.new' rfl) (by exact rfl) (by simp [Value.oneCell']) (by omega) (by simp [maxLen]; omega) (by simp; omega) ?_; intro v' w3 hown3 hgr)
      have hk3 : w3.heap[w0.heap.size]? = some (.stringIter s (pos + (Utf8.decode s pos).2)) := by
        rw [hgr.block w0.heap.size (by simp; omega) (fun h => by have := own_lt hown2 _ h.symm; omega), Below.heap_alloc _ _ _ hlt9]
        exact HK.out
      refine ⟨⟨pos + (Utf8.decode s pos).2, l ++ [((Utf8.decode s pos).1 : Int)], hk3, (hx2.alloc _).grown hgr (fun q hq => by have := own_lt hown2 q hq; omega), ?_, ?_, ?_⟩, ?_⟩
      · rw [HP.out, hstep.out]; simp
      · rw [List.length_append, List.length_singleton]; omega
      · rw [List.length_append, List.flatMap_append]; exact hown3
      · rw [iterPos_of hk3, hpos0.out]; omega
    · have hn := fun ty => Lib.run_next_end_at (P := Tryz.prog) wr _ s pos ty hk hlt
      have hl : runes s 0 = l := by rw [HP.out, runes_end s pos hlt]; simp
      obtain ⟨A, c, rfl, hc, _, hsl, _⟩ := own_sl (f := fun x : Int => [Value.int .i32 x]) (size := 1) (fun _ => rfl) rfl hown
      have HL := Lib.hid hl
      have HX := Lib.hid (HX0.out.trans hx)
      clear hl hx hown HP
      go_wp2_with fail
      go_ret
      exact ⟨A, l.length, c, rfl, by rw [HL.out]; exact hsl, hc, HX.out⟩
set_option maxHeartbeats 400000 in
theorem R8Chars_any (s : ByteArray) (w : World) (hE : Env w) (hs : s.size ≤ 35184372088831) (hv : vld s = true) :
    Calls Tryz.prog 127 #[.string s] w (RunesPost s w) := by
  have HV := Lib.hid (RValid_any s w (by omega))
  have HR := Lib.hid (fun w' => R8runes_any s w' hs)
  rw [hv] at HV
  clear hv
  go_enter Tryz.func127, Tryz.ntmps127
  go_wp2_with fail
  refine HV.out.mono ?_
  rintro en w0 ⟨rfl, hx0⟩
  have HX0 := Lib.hid hx0
  clear HV hx0
  go_wp2_with fail
  refine (HR.out _).mono ?_
  rintro en w2 ⟨A, n, c, rfl, hS, hc, hx2⟩
  have HS := Lib.hid hS
  have HX2 := Lib.hid (HX0.out.trans hx2)
  clear hS hx2 HX0
  go_wp2_with fail
  go_ret
  exact ⟨A, n, c, rfl, HS.out, hc, HX2.out⟩
end Go.Proofs.YtajbhfmdmajpmaaGreatDoor

/-! RowR -/
namespace Go.Proofs.YtajbhfmdmajpmaaGreatDoor
set_option linter.unusedVariables false
set_option linter.unusedSimpArgs false
open Go.RowKit
theorem R9Valid_any (c : Int) (i u : Bool) (w : World) : Calls Tryz.prog 57 #[.agg #[.int .u8 c, .bool i, .bool u]] w fun e w' => e = .returned (.bool (decide (c ≤ 6))) ∧ Ext w w' := by
  go_enter Tryz.func57, Tryz.ntmps57
  go_wp2
  go_ret
  exact ⟨rfl, (Ext.refl w).alloc _⟩
set_option maxHeartbeats 1000000 in
theorem R9Len_any (A : Option Addr) (n c : Nat) (l : Row) (w : World) (hE : Env w) (hl : RunsAt w A n l) (hb : rowBytes l ≤ 35184372088831) (hn : n ≤ 4611686018427387904) :
    Calls Tryz.prog 97 #[.agg #[.slice A n c]] w fun e w' => e = .returned (.int .i64 (rowLen l)) ∧ Ext w w' := by
  have HL := Lib.hid hl
  have HLn := Lib.hid hl.len
  clear hl
  have HEn := Lib.hid hE
  clear hE
  go_enter Tryz.func97, Tryz.ntmps97
  go_wp2_with fail
  go_loopw [3, 10] (fun v i wr => LenRel w n l v i wr) (fun _ i _ => n - (intOf i).toNat)
  case atStart =>
    refine ⟨0, 0, Nat.zero_le _, rfl, rfl, by omega, by simp, (Ext.refl w).alloc _, ?_⟩
    have := rowLen_ge l
    simp only [List.drop_zero]
    split <;> omega
  case round =>
    obtain ⟨k, s, hk, rfl, rfl, hs0, hs1, hx, hp⟩ := hrel
    have HP := Lib.hid hp
    clear hp
    by_cases hlt : k < n
    · obtain ⟨b, off, r, rfl, hr, hC⟩ := (HL.out.ext hx).at_ hlt
      obtain ⟨c0, c1, c2, c3, c4⟩ := hC
      have HD := Lib.hid (drop_at l k r hr)
      have hbt := rowBytes_drop l k r hr
      have hble := rowBytes_take_le l (k + 1)
      have hsz : (r.text.size : Int) ≤ 35184372088831 := by omega
      have hs2 : s + r.text.size ≤ 4611686018427387904 := by omega
      have hs3 : Hid (s + (r.text.size : Int) ≤ (rowBytes (l.take (k + 1)) : Int)) := by show s + (r.text.size : Int) ≤ _; omega
      clear hbt hble hr
      have hcl := clen_le r.text
      have hcg := clen_ge r.text
      have hcl2 : s + clen r.text ≤ 4611686018427387904 := by omega
      go_wp2_with fail
      refine (R8Len_any r.text _ (by omega)).mono ?_
      rintro e w2 ⟨rfl, hx2⟩
      by_cases hneg : clen r.text < 0
      · go_wp2_with fail
        go_ret
        refine ⟨ret_int ?_, (hx.alloc _).trans hx2⟩
        rw [HP.out, HD.out, rowLen, if_pos (by omega)]
      · go_wp2_with fail
        refine ⟨⟨k + 1, s + clen r.text, by omega, by go_num, rfl, by omega, ?_, (hx.alloc _).trans hx2, ?_⟩, by simp [intOf]; omega⟩
        · have := hs3.out; omega
        · rw [HP.out, HD.out]
          exact rowLen_step s r (l.drop (k + 1)) (by omega)
    · have HD : Hid (l.drop k = []) := List.drop_eq_nil_of_le (by rw [HLn.out]; omega)
      go_wp2_with fail
      go_ret
      exact ⟨ret_int (by rw [HP.out, HD.out]; simp [rowLen]), hx⟩
def RPlainRel (w : World) (n : Nat) (l : Row) (v i : Value) (wr : World) : Prop := ∃ k : Nat, k ≤ n ∧ i = .int .i64 k ∧ v = .string ⟨(rowText (l.take k)).toArray⟩ ∧ Ext w wr
theorem ba_append (x : List UInt8) (s : ByteArray) : (⟨x.toArray⟩ : ByteArray) ++ s = ⟨(x ++ s.data.toList).toArray⟩ := by
  apply ByteArray.ext
  simp [ByteArray.data_append]
set_option maxHeartbeats 1000000 in
theorem R9Plain_any (A : Option Addr) (n c : Nat) (l : Row) (w : World) (hl : RunsAt w A n l) (hb : rowBytes l ≤ 4611686018427387904) (hn : n ≤ 4611686018427387904) :
    Calls Tryz.prog 96 #[.agg #[.slice A n c]] w fun e w' => e = .returned (.string ⟨(rowText l).toArray⟩) ∧ Ext w w' := by
  have HL := Lib.hid hl
  have HLn := Lib.hid hl.len
  clear hl
  go_enter Tryz.func96, Tryz.ntmps96
  go_wp2_with fail
  go_loopw [3, 9] (fun v i wr => RPlainRel w n l v i wr) (fun _ i _ => n - (intOf i).toNat)
  case atStart => exact ⟨0, Nat.zero_le _, rfl, rfl, (Ext.refl w).alloc _⟩
  case round =>
    obtain ⟨k, hk, rfl, rfl, hx⟩ := hrel
    by_cases hlt : k < n
    · obtain ⟨b, off, r, rfl, hr, hC⟩ := (HL.out.ext hx).at_ hlt
      obtain ⟨c0, c1, c2, c3, c4⟩ := hC
      have HT := Lib.hid (rowText_snoc l k r hr)
      have hbt := rowBytes_drop l k r hr
      have hble := rowBytes_take_le l (k + 1)
      have hlen := rowText_len (l.take k)
      clear hr
      obtain ⟨xs, hxs⟩ : ∃ xs, xs = rowText (l.take k) := ⟨_, rfl⟩
      rw [← hxs]
      rw [← hxs] at HT hlen
      have hcat : ¬ 9223372036854775807 < xs.length + r.text.size := by omega
      clear hxs hbt hble hlen
      go_wp2_with fail
      refine ⟨?_, by simp [intOf]; omega⟩
      refine ⟨k + 1, by omega, by go_num, ?_, hx.alloc _⟩
      rw [HT.out, ← ba_append]
    · have HT : Hid (l.take k = l) := List.take_of_length_le (by rw [HLn.out]; omega)
      go_wp2_with fail
      go_ret
      exact ⟨by rw [HT.out]; rfl, hx⟩
end Go.Proofs.YtajbhfmdmajpmaaGreatDoor

/-! ScrP -/
namespace Go.Proofs.YtajbhfmdmajpmaaGreatDoor
set_option linter.unusedVariables false
set_option linter.unusedSimpArgs false
structure Gl where
  row : Int
  col : Int
  ch : Int
  color : Int
  italic : Bool
  under : Bool
  deriving DecidableEq
def Gl.cell (g : Gl) : Int := g.row * 32 + g.col
def Gl.zero : Gl := ⟨0, 0, 0, 0, false, false⟩
/-- a character within the grid -/
def Gl.ok (g : Gl) : Prop := 0 ≤ g.row ∧ g.row < 15 ∧ 0 ≤ g.col ∧ g.col < 32 ∧ g.ch ≠ 0
theorem Gl.ok_cell {g : Gl} (h : g.ok) : 0 ≤ g.cell ∧ g.cell < 480 := by
  obtain ⟨h1, h2, h3, h4, -⟩ := h
  unfold Gl.cell
  omega
theorem Gl.ok_same {g g' : Gl} (h : g.ok) (h' : g'.ok) : g.cell = g'.cell ↔ g.row = g'.row ∧ g.col = g'.col := by
  obtain ⟨h1, h2, h3, h4, -⟩ := h
  obtain ⟨k1, k2, k3, k4, -⟩ := h'
  unfold Gl.cell
  omega
/-- the place of the first character that is not ahead of a cell -/
def putAt (l : List Gl) (c : Int) : Nat := (l.takeWhile fun x => decide (x.cell < c)).length
/-- a screen with a character, in the place of the one in its cell (the reference's) -/
def putG (l : List Gl) (g : Gl) : List Gl :=
  l.take (putAt l g.cell) ++ g :: l.drop (putAt l g.cell + if (l[putAt l g.cell]?.map fun x => decide (x.row = g.row ∧ x.col = g.col)) = some true then 1 else 0)
/-- the grid with characters -/
def gridOf (gs : List Gl) : List Gl := gs.foldl (fun G g => G.set g.cell.toNat g) (List.replicate 480 Gl.zero)
/-- the characters of a grid -/
def scrOf (G : List Gl) : List Gl := G.filter fun g => decide (g.ch ≠ 0)
def screenG (gs : List Gl) : List Gl := scrOf (gridOf gs)
/-- each character of the grid stands in its cell -/
def GridOk (G : List Gl) : Prop := G.length = 480 ∧ ∀ (i : Nat) (g : Gl), G[i]? = some g → g = Gl.zero ∨ (g.ok ∧ g.cell = i)
theorem grid_zero : GridOk (List.replicate 480 Gl.zero) := ⟨List.length_replicate, fun i g h => .inl (by
  rw [List.getElem?_replicate] at h
  split at h
  · exact (Option.some.inj h).symm
  · simp at h)⟩
theorem grid_set {G : List Gl} {g : Gl} (h : GridOk G) (hg : g.ok) : GridOk (G.set g.cell.toNat g) := by
  have hc := Gl.ok_cell hg
  refine ⟨by rw [List.length_set]; exact h.1, fun i x hx => ?_⟩
  rw [List.getElem?_set] at hx
  split at hx
  · rename_i e
    split at hx
    · obtain rfl := Option.some.inj hx
      exact .inr ⟨hg, by omega⟩
    · simp at hx
  · exact h.2 i x hx
theorem takeWhile_all {α : Type} {p : α → Bool} : ∀ {l : List α}, (∀ x ∈ l, p x = true) → l.takeWhile p = l
  | [], _ => rfl
  | a :: l, h => by rw [List.takeWhile_cons, if_pos (h a (by simp)), takeWhile_all fun x hx => h x (by simp [hx])]
theorem putAt_mid {A B : List Gl} {c : Int} (hA : ∀ x ∈ A, x.cell < c) (hB : ∀ x, B.head? = some x → ¬ x.cell < c) : putAt (A ++ B) c = A.length := by
  unfold putAt
  rw [List.takeWhile_append]
  have e : A.takeWhile (fun x => decide (x.cell < c)) = A := by
    exact takeWhile_all fun x hx => by simpa using hA x hx
  rw [e, if_pos rfl, List.length_append]
  have : B.takeWhile (fun x => decide (x.cell < c)) = [] := by
    cases B with
    | nil => rfl
    | cons b B =>
      rw [List.takeWhile_cons, if_neg (by simpa using hB b rfl)]
  rw [this]; rfl
theorem put_new {A B : List Gl} {g : Gl} (hg : g.ok) (hA : ∀ x ∈ A, x.cell < g.cell) (hB : ∀ x ∈ B, g.cell < x.cell) : putG (A ++ B) g = A ++ g :: B := by
  unfold putG
  rw [putAt_mid hA (fun x hx => by have := hB x (List.mem_of_head? hx); omega)]
  rw [List.take_left]
  have e : ((A ++ B)[A.length]?.map fun x => decide (x.row = g.row ∧ x.col = g.col)) ≠ some true := by
    rw [List.getElem?_append_right (Nat.le_refl _), Nat.sub_self]
    cases B with
    | nil => simp
    | cons b B =>
      have := hB b (by simp)
      simp only [List.getElem?_cons_zero, Option.map_some, ne_eq, Option.some.injEq, decide_eq_true_eq]
      rintro ⟨e1, e2⟩
      unfold Gl.cell at this
      rw [e1, e2] at this
      omega
  rw [if_neg e, Nat.add_zero, List.drop_left]
theorem put_old {A B : List Gl} {g o : Gl} (hg : g.ok) (ho : o.ok) (hc : o.cell = g.cell) (hA : ∀ x ∈ A, x.cell < g.cell) : putG (A ++ o :: B) g = A ++ g :: B := by
  unfold putG
  rw [putAt_mid hA (fun x hx => by simp at hx; subst hx; omega)]
  rw [List.take_left]
  obtain ⟨e1, e2⟩ := (Gl.ok_same ho hg).1 hc
  have e : ((A ++ o :: B)[A.length]?.map fun x => decide (x.row = g.row ∧ x.col = g.col)) = some true := by
    rw [List.getElem?_append_right (Nat.le_refl _), Nat.sub_self]
    simp [e1, e2]
  rw [if_pos e]
  congr 2
  rw [← List.drop_drop, List.drop_left]
  rfl
theorem grid_split {G : List Gl} {c : Nat} (h : GridOk G) (hc : c < 480) : ∃ o, G[c]? = some o ∧ (o = Gl.zero ∨ (o.ok ∧ o.cell = c)) ∧ G = G.take c ++ o :: G.drop (c + 1) ∧ (∀ x ∈ scrOf (G.take c), x.ok ∧ x.cell < c) ∧ (∀ x ∈ scrOf (G.drop (c + 1)), x.ok ∧ (c : Int) < x.cell) := by
  have hl : c < G.length := by rw [h.1]; exact hc
  refine ⟨G[c], List.getElem?_eq_getElem hl, h.2 c _ (List.getElem?_eq_getElem hl), ?_, ?_, ?_⟩
  · rw [← List.drop_eq_getElem_cons hl, List.take_append_drop]
  · intro x hx
    unfold scrOf at hx
    rw [List.mem_filter] at hx
    obtain ⟨i, hi, hxi⟩ := List.mem_iff_getElem.1 hx.1
    rw [List.getElem_take] at hxi
    rw [List.length_take] at hi
    rcases h.2 i x (by rw [← hxi]; exact List.getElem?_eq_getElem (by omega)) with h1 | ⟨h1, h2⟩
    · subst h1; simp [Gl.zero] at hx
    · exact ⟨h1, by omega⟩
  · intro x hx
    unfold scrOf at hx
    rw [List.mem_filter] at hx
    obtain ⟨i, hi, hxi⟩ := List.mem_iff_getElem.1 hx.1
    rw [List.getElem_drop] at hxi
    rw [List.length_drop] at hi
    rcases h.2 (c + 1 + i) x (by rw [← hxi]; exact List.getElem?_eq_getElem (by omega)) with h1 | ⟨h1, h2⟩
    · subst h1; simp [Gl.zero] at hx
    · exact ⟨h1, by omega⟩
theorem scr_set {G : List Gl} {g : Gl} (h : GridOk G) (hg : g.ok) : scrOf (G.set g.cell.toNat g) = putG (scrOf G) g := by
  have hc := Gl.ok_cell hg
  obtain ⟨c, hcc⟩ : ∃ c : Nat, g.cell = c := ⟨g.cell.toNat, by omega⟩
  have hcn : g.cell.toNat = c := by omega
  obtain ⟨o, ho, hoo, hG, hA, hB⟩ := grid_split h (show c < 480 by omega)
  have hl : c < G.length := (List.getElem?_eq_some_iff.1 ho).1
  have e1 : scrOf (G.set g.cell.toNat g) = scrOf (G.take c) ++ g :: scrOf (G.drop (c + 1)) := by
    rw [hcn, List.set_eq_take_append_cons_drop, if_pos hl]
    unfold scrOf
    rw [List.filter_append, List.filter_cons, if_pos (by simpa using hg.2.2.2.2)]
  rw [e1]
  have e2 : scrOf G = scrOf (G.take c) ++ (if o.ch ≠ 0 then [o] else []) ++ scrOf (G.drop (c + 1)) := by
    have : scrOf G = scrOf (G.take c ++ o :: G.drop (c + 1)) := congrArg scrOf hG
    rw [this]
    unfold scrOf
    rw [List.filter_append, List.filter_cons, List.append_assoc]
    congr 1
    by_cases h0 : o.ch = 0 <;> simp [h0]
  rw [e2]
  rcases hoo with rfl | ⟨ho1, ho2⟩
  · rw [if_neg (by simp [Gl.zero]), List.append_nil]
    exact (put_new hg (fun x hx => by have := (hA x hx).2; omega) (fun x hx => by have := (hB x hx).2; omega)).symm
  · rw [if_pos ho1.2.2.2.2, List.append_assoc]
    exact (put_old hg ho1 (by omega) (fun x hx => by have := (hA x hx).2; omega)).symm
theorem scr_zero : scrOf (List.replicate 480 Gl.zero) = [] := by
  unfold scrOf
  rw [List.filter_eq_nil_iff]
  intro a ha
  obtain rfl := List.eq_of_mem_replicate ha
  simp [Gl.zero]
theorem grid_fold : ∀ (gs G : List Gl), GridOk G → (∀ g ∈ gs, g.ok) → GridOk (gs.foldl (fun G g => G.set g.cell.toNat g) G) ∧ scrOf (gs.foldl (fun G g => G.set g.cell.toNat g) G) = gs.foldl putG (scrOf G)
  | [], G, h, _ => ⟨h, rfl⟩
  | g :: gs, G, h, hg => by
    have h1 := grid_fold gs (G.set g.cell.toNat g) (grid_set h (hg g (by simp))) (fun x hx => hg x (by simp [hx]))
    rw [scr_set h (hg g (by simp))] at h1
    exact h1
theorem grid_ok {gs : List Gl} (h : ∀ g ∈ gs, g.ok) : GridOk (gridOf gs) := (grid_fold gs _ grid_zero h).1
/-- the program's screen is the reference's -/
theorem screen_put {gs : List Gl} (h : ∀ g ∈ gs, g.ok) : screenG gs = gs.foldl putG [] := by
  have := (grid_fold gs _ grid_zero h).2
  rw [scr_zero] at this
  exact this
/-- the cells ascend -/
def Asc (l : List Gl) : Prop := l.Pairwise fun x y => x.cell < y.cell
theorem scr_asc {G : List Gl} (h : GridOk G) : Asc (scrOf G) := by
  have key : ∀ k, k ≤ 480 → Asc (scrOf (G.take k)) := by
    intro k
    induction k with
    | zero => intro _; simp [Asc, scrOf]
    | succ k ih =>
      intro hk
      obtain ⟨o, ho, hoo, -, hA, -⟩ := grid_split h (show k < 480 by omega)
      have hl : k < G.length := (List.getElem?_eq_some_iff.1 ho).1
      have e : G.take (k + 1) = G.take k ++ [o] := by
        rw [List.take_succ_eq_append_getElem hl, (List.getElem?_eq_some_iff.1 ho).2]
      rw [e]
      unfold scrOf at hA ⊢
      rw [List.filter_append]
      unfold Asc
      rw [List.pairwise_append]
      refine ⟨ih (by omega), ?_, ?_⟩
      · by_cases h0 : o.ch = 0 <;> simp [h0]
      · intro a ha b hb
        have h1 := (hA a ha).2
        rw [List.mem_filter] at hb
        have hb1 : b = o := by simpa using hb.1
        subst hb1
        rcases hoo with rfl | ⟨h3, h4⟩
        · simp [Gl.zero] at hb
        · omega
  have := key 480 (Nat.le_refl _)
  rwa [List.take_of_length_le (by rw [h.1]; exact Nat.le_refl _)] at this
theorem scr_mem_ok {G : List Gl} (h : GridOk G) {x : Gl} (hx : x ∈ scrOf G) : x.ok := by
  unfold scrOf at hx
  rw [List.mem_filter] at hx
  obtain ⟨i, hi⟩ := List.mem_iff_getElem?.1 hx.1
  rcases h.2 i x hi with h1 | h1
  · subst h1; simp [Gl.zero] at hx
  · exact h1.1
theorem screen_asc {gs : List Gl} (h : ∀ g ∈ gs, g.ok) : Asc (screenG gs) := scr_asc (grid_ok h)
theorem screen_ok {gs : List Gl} (h : ∀ g ∈ gs, g.ok) : ∀ x ∈ screenG gs, x.ok := fun _ hx => scr_mem_ok (grid_ok h) hx
theorem put_len (l : List Gl) (g : Gl) : (putG l g).length ≤ l.length + 1 := by
  unfold putG
  simp only [List.length_append, List.length_cons, List.length_take, List.length_drop]
  omega
theorem put_sub (l : List Gl) (g x : Gl) (h : x ∈ putG l g) : x ∈ l ∨ x = g := by
  unfold putG at h
  rw [List.mem_append, List.mem_cons] at h
  rcases h with h | h | h
  · exact .inl (List.mem_of_mem_take h)
  · exact .inr h
  · exact .inl (List.mem_of_mem_drop h)
theorem fold_len : ∀ (gs l : List Gl), (gs.foldl putG l).length ≤ l.length + gs.length
  | [], l => by simp
  | g :: gs, l => by
    have h1 := fold_len gs (putG l g)
    have h2 := put_len l g
    simp only [List.foldl_cons, List.length_cons]
    omega
theorem fold_sub : ∀ (gs l : List Gl) (x : Gl), x ∈ gs.foldl putG l → x ∈ l ∨ x ∈ gs
  | [], l, x, h => .inl h
  | g :: gs, l, x, h => by
    rcases fold_sub gs (putG l g) x h with h1 | h1
    · rcases put_sub l g x h1 with h2 | h2
      · exact .inl h2
      · exact .inr (by simp [h2])
    · exact .inr (by simp [h1])
theorem screen_len {gs : List Gl} (h : ∀ g ∈ gs, g.ok) : (screenG gs).length ≤ gs.length := by
  rw [screen_put h]
  have := fold_len gs []
  simpa using this
theorem screen_sub {gs : List Gl} (h : ∀ g ∈ gs, g.ok) : ∀ x ∈ screenG gs, x ∈ gs := by
  rw [screen_put h]
  intro x hx
  rcases fold_sub gs [] x hx with h1 | h1
  · simp at h1
  · exact h1
theorem scr_le (G : List Gl) (h : G.length = 480) : (scrOf G).length ≤ 480 := by
  have := List.length_filter_le (fun g : Gl => decide (g.ch ≠ 0)) G
  unfold scrOf
  omega
theorem grid_len (gs : List Gl) : (gridOf gs).length = 480 := by
  unfold gridOf
  have : ∀ (gs G : List Gl), (gs.foldl (fun G g => G.set g.cell.toNat g) G).length = G.length := by
    intro gs
    induction gs with
    | nil => intro G; rfl
    | cons g gs ih => intro G; rw [List.foldl_cons, ih, List.length_set]
  rw [this]; exact List.length_replicate
theorem screen_480 (gs : List Gl) : (screenG gs).length ≤ 480 := scr_le _ (grid_len gs)
/-- characters in cells of their own: all of them are on the screen -/
theorem put_fresh {l : List Gl} {g : Gl} (hl : Asc l) (hok : ∀ x ∈ l, x.ok) (hg : g.ok) (hf : ∀ x ∈ l, x.cell ≠ g.cell) : (putG l g).length = l.length + 1 ∧ (∀ x, x ∈ putG l g ↔ x = g ∨ x ∈ l) ∧ Asc (putG l g) := by
  obtain ⟨A, B, rfl, hA, hB⟩ : ∃ A B, l = A ++ B ∧ (∀ x ∈ A, x.cell < g.cell) ∧ (∀ x ∈ B, g.cell < x.cell) := by
    clear hok
    induction l with
    | nil => exact ⟨[], [], rfl, by simp, by simp⟩
    | cons a l ih =>
      unfold Asc at hl ih
      rw [List.pairwise_cons] at hl
      by_cases ha : a.cell < g.cell
      · obtain ⟨A, B, rfl, h1, h2⟩ := ih hl.2 (fun x hx => hf x (by simp [hx]))
        refine ⟨a :: A, B, rfl, fun x hx => ?_, h2⟩
        rcases List.mem_cons.1 hx with rfl | hx
        · exact ha
        · exact h1 x hx
      · have := hf a (by simp)
        refine ⟨[], a :: l, rfl, by simp, fun x hx => ?_⟩
        rcases List.mem_cons.1 hx with rfl | hx
        · omega
        · have := hl.1 x hx; omega
  rw [put_new hg hA hB]
  refine ⟨by simp; omega, fun x => by simp [or_left_comm], ?_⟩
  unfold Asc at hl ⊢
  rw [List.pairwise_append] at hl ⊢
  refine ⟨hl.1, List.pairwise_cons.2 ⟨hB, hl.2.1⟩, fun a ha b hb => ?_⟩
  rcases List.mem_cons.1 hb with rfl | hb
  · exact hA a ha
  · exact hl.2.2 a ha b hb
theorem fold_fresh : ∀ (gs l : List Gl), Asc l → (∀ x ∈ l, x.ok) → (∀ g ∈ gs, g.ok) → (gs.Pairwise fun x y => x.cell ≠ y.cell) → (∀ x ∈ l, ∀ g ∈ gs, x.cell ≠ g.cell) →
    (gs.foldl putG l).length = l.length + gs.length ∧ ∀ x, x ∈ gs.foldl putG l ↔ x ∈ l ∨ x ∈ gs
  | [], l, _, _, _, _, _ => ⟨by simp, fun x => by simp⟩
  | g :: gs, l, h1, h2, h3, h4, h5 => by
    rw [List.pairwise_cons] at h4
    obtain ⟨k1, k2, k3⟩ := put_fresh h1 h2 (h3 g (by simp)) (fun x hx => h5 x hx g (by simp))
    obtain ⟨e1, e2⟩ := fold_fresh gs (putG l g) k3 (fun x hx => by
      rcases (k2 x).1 hx with rfl | hx
      · exact h3 x (by simp)
      · exact h2 x hx) (fun x hx => h3 x (by simp [hx])) h4.2 (fun x hx y hy => by
      rcases (k2 x).1 hx with rfl | hx
      · exact h4.1 y hy
      · exact h5 x hx y (by simp [hy]))
    refine ⟨by rw [List.foldl_cons, e1, k1, List.length_cons]; omega, fun x => ?_⟩
    rw [List.foldl_cons, e2, k2]
    simp [or_assoc, or_left_comm]
theorem screen_all {gs : List Gl} (h : ∀ g ∈ gs, g.ok) (hd : gs.Pairwise fun x y => x.cell ≠ y.cell) : (screenG gs).length = gs.length ∧ ∀ x ∈ gs, x ∈ screenG gs := by
  rw [screen_put h]
  obtain ⟨e1, e2⟩ := fold_fresh gs [] (by simp [Asc]) (by simp) h hd (by simp)
  exact ⟨by simpa using e1, fun x hx => (e2 x).2 (.inr hx)⟩
theorem asc_unique : ∀ {l m : List Int}, l.Pairwise (· < ·) → m.Pairwise (· < ·) → (∀ x, x ∈ l ↔ x ∈ m) → l = m
  | [], [], _, _, _ => rfl
  | [], b :: m, _, _, h => absurd ((h b).2 (by simp)) (by simp)
  | a :: l, [], _, _, h => absurd ((h a).1 (by simp)) (by simp)
  | a :: l, b :: m, hl, hm, h => by
    rw [List.pairwise_cons] at hl hm
    have hab : a = b := by
      rcases List.mem_cons.1 ((h a).1 (by simp)) with e | e
      · exact e
      · rcases List.mem_cons.1 ((h b).2 (by simp)) with e' | e'
        · exact e'.symm
        · have h1 := hm.1 a e
          have h2 := hl.1 b e'
          omega
    subst hab
    refine congrArg _ (asc_unique hl.2 hm.2 fun x => ⟨fun hx => ?_, fun hx => ?_⟩)
    · rcases List.mem_cons.1 ((h x).1 (by simp [hx])) with e | e
      · subst e; exact absurd (hl.1 _ hx) (by omega)
      · exact e
    · rcases List.mem_cons.1 ((h x).2 (by simp [hx])) with e | e
      · subst e; exact absurd (hm.1 _ hx) (by omega)
      · exact e
/-- the place of the first number that is not less -/
def insAt (l : List Int) (t : Int) : Nat := (l.takeWhile fun x => decide (x < t)).length
/-- a number set into ascending numbers (the reference's) -/
def insT (l : List Int) (t : Int) : List Int := if l[insAt l t]? = some t then l else l.take (insAt l t) ++ t :: l.drop (insAt l t)
theorem takeWhile_prefix {α : Type} {p : α → Bool} : ∀ (l : List α), l.take (l.takeWhile p).length = l.takeWhile p
  | [] => rfl
  | a :: l => by
    rw [List.takeWhile_cons]
    by_cases h : p a = true
    · rw [if_pos h, List.length_cons, List.take_succ_cons, takeWhile_prefix l]
    · rw [if_neg h]; rfl
theorem mem_takeWhile {α : Type} {p : α → Bool} : ∀ {l : List α} {x : α}, x ∈ l.takeWhile p → p x = true
  | [], x, h => by simp at h
  | a :: l, x, h => by
    rw [List.takeWhile_cons] at h
    by_cases ha : p a = true
    · rw [if_pos ha] at h
      rcases List.mem_cons.1 h with rfl | h
      · exact ha
      · exact mem_takeWhile h
    · rw [if_neg ha] at h; simp at h
theorem drop_takeWhile_head {α : Type} {p : α → Bool} : ∀ {l : List α} {x : α}, (l.drop (l.takeWhile p).length).head? = some x → p x = false
  | [], x, h => by simp at h
  | a :: l, x, h => by
    rw [List.takeWhile_cons] at h
    by_cases ha : p a = true
    · rw [if_pos ha, List.length_cons, List.drop_succ_cons] at h
      exact drop_takeWhile_head h
    · rw [if_neg ha] at h
      simp at h; subst h; simpa using ha
theorem ins_ok {l : List Int} {t : Int} (h : l.Pairwise (· < ·)) : (insT l t).Pairwise (· < ·) ∧ ∀ x, x ∈ insT l t ↔ x = t ∨ x ∈ l := by
  have hs : l.take (insAt l t) ++ l.drop (insAt l t) = l := List.take_append_drop _ _
  have hA : ∀ x ∈ l.take (insAt l t), x < t := by
    intro x hx
    unfold insAt at hx
    rw [takeWhile_prefix] at hx
    simpa using mem_takeWhile hx
  have hh : (l.drop (insAt l t)).head? = l[insAt l t]? := by rw [List.head?_drop]
  have hB0 : ∀ y, (l.drop (insAt l t)).head? = some y → t ≤ y := by
    intro y hy
    have := drop_takeWhile_head (p := fun x => decide (x < t)) (l := l) hy
    simpa using this
  unfold insT
  rw [← hh]
  generalize hAe : l.take (insAt l t) = A at *
  generalize hBe : l.drop (insAt l t) = B at *
  clear hAe hBe hh
  subst hs
  rw [List.pairwise_append] at h
  cases B with
  | nil =>
    rw [if_neg (by simp)]
    refine ⟨?_, fun x => by simp [or_comm]⟩
    rw [List.pairwise_append]
    exact ⟨h.1, by simp, fun a ha b hb => by simp at hb; subst hb; exact hA a ha⟩
  | cons b B =>
    have hb := hB0 b rfl
    by_cases e : b = t
    · subst e
      rw [if_pos (by simp)]
      exact ⟨by rw [List.pairwise_append]; exact h, fun x => ⟨fun hx => .inr hx, fun hx => hx.elim (fun e => by rw [e]; simp) id⟩⟩
    · rw [if_neg (by simpa using e)]
      refine ⟨?_, fun x => by simp [or_left_comm]⟩
      rw [List.pairwise_append]
      refine ⟨h.1, List.pairwise_cons.2 ⟨fun x hx => ?_, h.2.1⟩, fun x hx y hy => ?_⟩
      · rcases List.mem_cons.1 hx with rfl | hx
        · omega
        · have := (List.pairwise_cons.1 h.2.1).1 x hx; omega
      · rcases List.mem_cons.1 hy with rfl | hy
        · exact hA x hx
        · exact h.2.2 x hx y hy
def tmsOf (l : List Int) : List Int := l.foldl insT []
theorem tms_fold : ∀ (l m : List Int), m.Pairwise (· < ·) → (l.foldl insT m).Pairwise (· < ·) ∧ ∀ x, x ∈ l.foldl insT m ↔ x ∈ m ∨ x ∈ l
  | [], m, h => ⟨h, fun x => by simp⟩
  | t :: l, m, h => by
    obtain ⟨h1, h2⟩ := ins_ok (t := t) h
    obtain ⟨k1, k2⟩ := tms_fold l (insT m t) h1
    exact ⟨k1, fun x => by rw [List.foldl_cons, k2, h2]; simp [or_assoc, or_left_comm]⟩
theorem tms_asc (l : List Int) : (tmsOf l).Pairwise (· < ·) := (tms_fold l [] (by simp)).1
theorem tms_mem (l : List Int) (x : Int) : x ∈ tmsOf l ↔ x ∈ l := by
  have := (tms_fold l [] (by simp)).2 x
  unfold tmsOf
  simpa using this
structure Sh where
  inn : Int
  out : Int
  scr : List Gl
  deriving DecidableEq
/-- does a screen go on with the last show? -/
def goesB (l : List Sh) (a : Int) (s : List Gl) : Bool := match l.getLast? with
  | none => false
  | some x => decide (x.out = a) && decide (x.scr = s)
/-- the last show goes on -/
def shExt (l : List Sh) (b : Int) : List Sh := match l.getLast? with
  | none => l
  | some x => l.dropLast ++ [{ x with out := b }]
def shStep (l : List Sh) (a b : Int) (s : List Gl) : List Sh := if s = [] then l else if goesB l a s = true then shExt l b else l ++ [⟨a, b, s⟩]
/-- the reference's step -/
def shStepR (l : List Sh) (a b : Int) (s : List Gl) : List Sh := if goesB l a s = true then shExt l b else if s = [] then l else l ++ [⟨a, b, s⟩]
def shGo (S : Int → List Gl) (l : List Sh) : List Int → List Sh
  | [] => l
  | [_] => l
  | a :: b :: t => shGo S (shStep l a b (S a)) (b :: t)
def shL (S : Int → List Gl) (t : List Int) : List Sh := shGo S [] t
/-- no show is empty -/
def ShNe (l : List Sh) : Prop := ∀ x ∈ l, x.scr ≠ []
theorem sh_snoc {l : List Sh} {x : Sh} (h : l.getLast? = some x) : l = l.dropLast ++ [x] := by
  have hne : l ≠ [] := by rintro rfl; simp at h
  rw [List.getLast?_eq_some_getLast hne] at h
  have := List.dropLast_concat_getLast hne
  rw [Option.some.inj h] at this
  exact this.symm
theorem step_ne {l : List Sh} {a b : Int} {s : List Gl} (h : ShNe l) : ShNe (shStep l a b s) := by
  unfold shStep
  split
  · exact h
  · rename_i hs
    split
    · unfold shExt
      split
      · exact h
      · rename_i x hx
        intro y hy
        rcases List.mem_append.1 hy with hy | hy
        · exact h y (List.dropLast_subset l hy)
        · simp at hy; subst hy; exact h x (List.mem_of_getLast? hx)
    · intro y hy
      rcases List.mem_append.1 hy with hy | hy
      · exact h y hy
      · simp at hy; subst hy; exact hs
/-- the screen of shows at a frame -/
def atS (l : List Sh) (f : Int) : List Gl := ((l.find? fun x => decide (x.inn ≤ f) && decide (f < x.out)).map (·.scr)).getD []
/-- what holds of the shows up to a frame -/
structure ShInv (S : Int → List Gl) (l : List Sh) (a : Int) : Prop where
  ne : ShNe l
  ord : ∀ x ∈ l, x.inn < x.out ∧ x.out ≤ a
  nxt : l.Pairwise fun x y => x.out ≤ y.inn
  dif : ∀ i x y, l[i]? = some x → l[i + 1]? = some y → ¬ (x.out = y.inn ∧ x.scr = y.scr)
  at_ : ∀ f, f < a → atS l f = S f
  src : ∀ x ∈ l, ∃ t, x.scr = S t
theorem atS_none {l : List Sh} {a f : Int} (h : ∀ x ∈ l, x.inn < x.out ∧ x.out ≤ a) (hf : a ≤ f) : l.find? (fun x => decide (x.inn ≤ f) && decide (f < x.out)) = none := by
  rw [List.find?_eq_none]
  intro x hx
  have := h x hx
  simp
  omega
theorem inv_step {S : Int → List Gl} {l : List Sh} {a b : Int} (h : ShInv S l a) (hab : a < b) (hS : ∀ f, a ≤ f → f < b → S f = S a) : ShInv S (shStep l a b (S a)) b := by
  unfold shStep
  split
  · rename_i hs
    refine ⟨h.ne, fun x hx => ⟨(h.ord x hx).1, by have := (h.ord x hx).2; omega⟩, h.nxt, h.dif, fun f hf => ?_, h.src⟩
    by_cases hfa : f < a
    · exact h.at_ f hfa
    · rw [hS f (by omega) hf, hs]
      unfold atS
      rw [atS_none h.ord (by omega)]
      rfl
  · rename_i hs
    split
    · rename_i hg
      unfold goesB at hg
      unfold shExt
      split at hg
      · simp at hg
      · rename_i x hx
        simp only [Bool.and_eq_true, decide_eq_true_eq] at hg
        obtain ⟨g1, g2⟩ := hg
        have hl := sh_snoc hx
        obtain ⟨ini, hini⟩ : ∃ ini, ini = l.dropLast := ⟨_, rfl⟩
        rw [← hini] at hl ⊢
        clear hini hx
        subst hl
        have hox := h.ord x (by simp)
        refine ⟨?_, ?_, ?_, ?_, ?_, ?_⟩
        · intro y hy
          rcases List.mem_append.1 hy with hy | hy
          · exact h.ne y (by simp [hy])
          · simp at hy; subst hy; exact h.ne x (by simp)
        · intro y hy
          rcases List.mem_append.1 hy with hy | hy
          · have := h.ord y (by simp [hy]); omega
          · simp at hy; subst hy; simp only; omega
        · have := h.nxt
          rw [List.pairwise_append] at this ⊢
          refine ⟨this.1, by simp, fun p hp q hq => ?_⟩
          simp at hq; subst hq
          exact this.2.2 p hp x (by simp)
        · intro i p q hp hq
          by_cases hi : i + 1 < ini.length
          · rw [List.getElem?_append_left (by omega)] at hp hq
            exact h.dif i p q (by rw [List.getElem?_append_left (by omega)]; exact hp) (by rw [List.getElem?_append_left (by omega)]; exact hq)
          · have hl2 := (List.getElem?_eq_some_iff.1 hq).1
            simp at hl2
            have hie : i + 1 = ini.length := by omega
            rw [List.getElem?_append_left (by omega)] at hp
            rw [List.getElem?_append_right (by omega), show i + 1 - ini.length = 0 by omega] at hq
            simp at hq; subst hq
            exact h.dif i p x (by rw [List.getElem?_append_left (by omega)]; exact hp) (by rw [List.getElem?_append_right (by omega), show i + 1 - ini.length = 0 by omega]; rfl)
        · intro f hf
          unfold atS
          rw [List.find?_append]
          by_cases hfa : f < a
          · have := h.at_ f hfa
            unfold atS at this
            rw [List.find?_append] at this
            rw [← this]
            have e1 : decide (f < b) = decide (f < x.out) := by rw [g1]; simp [hfa, hf]
            cases hfi : List.find? (fun x => decide (x.inn ≤ f) && decide (f < x.out)) ini with
            | some y => rfl
            | none =>
              simp only [Option.none_or, List.find?_cons, List.find?_nil]
              rw [e1]
              cases decide (x.inn ≤ f) && decide (f < x.out) <;> rfl
          · rw [atS_none (a := a) (fun y hy => h.ord y (by simp [hy])) (by omega)]
            simp only [Option.none_or, List.find?_cons, List.find?_nil]
            rw [decide_eq_true (show x.inn ≤ f by omega), decide_eq_true hf, hS f (by omega) hf]
            exact g2
        · intro y hy
          rcases List.mem_append.1 hy with hy | hy
          · exact h.src y (by simp [hy])
          · simp at hy; subst hy; exact h.src x (by simp)
    · rename_i hg
      refine ⟨?_, ?_, ?_, ?_, ?_, ?_⟩
      · intro y hy
        rcases List.mem_append.1 hy with hy | hy
        · exact h.ne y hy
        · simp at hy; subst hy; exact hs
      · intro y hy
        rcases List.mem_append.1 hy with hy | hy
        · have := h.ord y hy; omega
        · simp at hy; subst hy; simp only; omega
      · rw [List.pairwise_append]
        refine ⟨h.nxt, by simp, fun p hp q hq => ?_⟩
        simp at hq; subst hq
        exact (h.ord p hp).2
      · intro i p q hp hq
        by_cases hi : i + 1 < l.length
        · rw [List.getElem?_append_left (by omega)] at hp hq
          exact h.dif i p q hp hq
        · have hl2 := (List.getElem?_eq_some_iff.1 hq).1
          simp at hl2
          have hie : i + 1 = l.length := by omega
          rw [List.getElem?_append_left (by omega)] at hp
          rw [List.getElem?_append_right (by omega), show i + 1 - l.length = 0 by omega] at hq
          simp at hq; subst hq
          rintro ⟨e1, e2⟩
          apply hg
          unfold goesB
          have : l.getLast? = some p := by rw [List.getLast?_eq_getElem?, show l.length - 1 = i by omega]; exact hp
          rw [this]
          simp at e1 e2
          simp [e1, e2]
      · intro f hf
        unfold atS
        rw [List.find?_append]
        by_cases hfa : f < a
        · have := h.at_ f hfa
          unfold atS at this
          rw [← this]
          simp only [List.find?_cons, List.find?_nil]
          rw [decide_eq_false (show ¬ a ≤ f by omega)]
          simp
        · rw [atS_none (a := a) h.ord (by omega)]
          simp only [Option.none_or, List.find?_cons, List.find?_nil]
          rw [decide_eq_true (show a ≤ f by omega), decide_eq_true hf, hS f (by omega) hf]
          rfl
      · intro y hy
        rcases List.mem_append.1 hy with hy | hy
        · exact h.src y hy
        · simp at hy; subst hy; exact ⟨a, rfl⟩
/-- a screen stays what it is from one change to the next -/
def Steady (S : Int → List Gl) (t : List Int) : Prop := ∀ i a b, t[i]? = some a → t[i + 1]? = some b → ∀ f, a ≤ f → f < b → S f = S a
theorem sh_inv {S : Int → List Gl} : ∀ (t : List Int) (l : List Sh) (a : Int), t.head? = some a → t.Pairwise (· < ·) → Steady S t → ShInv S l a → ∃ z, t.getLast? = some z ∧ ShInv S (shGo S l t) z
  | [], l, a, h, _, _, _ => by simp at h
  | [x], l, a, h, _, _, hi => by simp at h; subst h; exact ⟨x, rfl, hi⟩
  | x :: b :: t, l, a, h, hp, hS, hi => by
    simp at h; subst h
    rw [List.pairwise_cons] at hp
    obtain ⟨z, hz, hI⟩ := sh_inv (b :: t) (shStep l x b (S x)) b rfl hp.2 (fun i p q hpp hq => hS (i + 1) p q (by simpa using hpp) (by simpa using hq)) (inv_step hi (hp.1 b (by simp)) (fun f h1 h2 => hS 0 x b rfl rfl f h1 h2))
    exact ⟨z, by rw [← hz]; rfl, hI⟩
/-- the shows of a list of changes -/
theorem shows_ok {S : Int → List Gl} {t : List Int} (ha : t.Pairwise (· < ·)) (hS : Steady S t) (hlo : ∀ f, (∀ x ∈ t, f < x) → S f = []) (hhi : ∀ f, (∀ x ∈ t, x ≤ f) → S f = []) :
    ShNe (shL S t) ∧ (∀ x ∈ shL S t, x.inn < x.out) ∧ (shL S t).Pairwise (fun x y => x.out ≤ y.inn) ∧ (∀ i x y, (shL S t)[i]? = some x → (shL S t)[i + 1]? = some y → ¬ (x.out = y.inn ∧ x.scr = y.scr)) ∧ (∀ f, atS (shL S t) f = S f) ∧ (∀ x ∈ shL S t, ∃ f, x.scr = S f) := by
  cases t with
  | nil =>
    refine ⟨?_, ?_, ?_, ?_, fun f => (hlo f (by simp)).symm, ?_⟩ <;> simp [shL, shGo, ShNe]
  | cons a t =>
    have hai : ∀ x ∈ a :: t, a ≤ x := by
      intro x hx
      rcases List.mem_cons.1 hx with rfl | hx
      · exact Int.le_refl _
      · have := (List.pairwise_cons.1 ha).1 x hx; omega
    obtain ⟨z, hz, hI⟩ := sh_inv (a :: t) [] a rfl ha hS ⟨by simp [ShNe], by simp, by simp, by simp, fun f hf => (hlo f (fun x hx => by have := hai x hx; omega)).symm, by simp⟩
    refine ⟨hI.ne, fun x hx => (hI.ord x hx).1, hI.nxt, hI.dif, fun f => ?_, hI.src⟩
    by_cases hf : f < z
    · exact hI.at_ f hf
    · rw [hhi f (fun x hx => ?_)]
      · unfold atS shL
        rw [atS_none hI.ord (by omega)]
        rfl
      · have hsn : ∀ (l : List Int), l.Pairwise (· < ·) → l.getLast? = some z → ∀ x ∈ l, x ≤ z := by
          intro l
          induction l with
          | nil => intro _ _ x hx; simp at hx
          | cons p l ih =>
            intro h1 h2 x hx
            rw [List.pairwise_cons] at h1
            cases l with
            | nil => simp at h2 hx; omega
            | cons q l =>
              have h3 : (q :: l).getLast? = some z := by rw [← h2]; rfl
              rcases List.mem_cons.1 hx with rfl | hx
              · have := h1.1 q (by simp)
                have := ih h1.2 h3 q (by simp)
                omega
              · exact ih h1.2 h3 x hx
        have := hsn _ ha hz x hx
        omega
structure Ov where
  a : Int
  b : Int
  inn : Int
  out : Int
  deriving DecidableEq
/-- do two screens have a cell in common? -/
def meetB (a b : List Gl) : Bool := a.any fun x => b.any fun y => decide (x.row = y.row ∧ x.col = y.col)
/-- the cells that are taken -/
def setOf (gs : List Gl) : List Bool := gs.foldl (fun G g => G.set g.cell.toNat true) (List.replicate 480 false)
def meetS (a b : List Bool) : Bool := (a.zip b).any fun p => p.1 && p.2
theorem set_len (gs : List Gl) : (setOf gs).length = 480 := by
  unfold setOf
  have : ∀ (gs : List Gl) (G : List Bool), (gs.foldl (fun G g => G.set g.cell.toNat true) G).length = G.length := by
    intro gs
    induction gs with
    | nil => intro G; rfl
    | cons g gs ih => intro G; rw [List.foldl_cons, ih, List.length_set]
  rw [this]; exact List.length_replicate
theorem set_fold : ∀ (gs : List Gl) (G : List Bool), G.length = 480 → (∀ g ∈ gs, g.ok) → ∀ c : Nat, ((gs.foldl (fun G g => G.set g.cell.toNat true) G)[c]? = some true ↔ G[c]? = some true ∨ ∃ g ∈ gs, g.cell = c)
  | [], G, _, _, c => by simp
  | g :: gs, G, h, hg, c => by
    have hgc := Gl.ok_cell (hg g (by simp))
    rw [List.foldl_cons, set_fold gs _ (by rw [List.length_set]; exact h) (fun x hx => hg x (by simp [hx])) c]
    rw [List.getElem?_set]
    have e : (if g.cell.toNat = c then if g.cell.toNat < G.length then some true else none else G[c]?) = some true ↔ G[c]? = some true ∨ g.cell = c := by
      by_cases hc : g.cell.toNat = c
      · rw [if_pos hc, if_pos (by omega)]
        exact ⟨fun _ => .inr (by omega), fun _ => rfl⟩
      · rw [if_neg hc]
        exact ⟨.inl, fun h => h.elim id fun h => absurd (show g.cell.toNat = c by omega) hc⟩
    rw [e]
    simp [or_assoc]
theorem set_mem {gs : List Gl} (h : ∀ g ∈ gs, g.ok) (c : Nat) : (setOf gs)[c]? = some true ↔ ∃ g ∈ gs, g.cell = c := by
  unfold setOf
  rw [set_fold gs _ List.length_replicate h c]
  rw [List.getElem?_replicate]
  constructor
  · rintro (h1 | h1)
    · split at h1 <;> simp at h1
    · exact h1
  · exact .inr
theorem meet_same {a b : List Gl} (ha : ∀ g ∈ a, g.ok) (hb : ∀ g ∈ b, g.ok) : meetS (setOf a) (setOf b) = meetB a b := by
  rw [Bool.eq_iff_iff]
  unfold meetS meetB
  rw [List.any_eq_true, List.any_eq_true]
  constructor
  · rintro ⟨⟨p, q⟩, hm, hpq⟩
    simp only [Bool.and_eq_true] at hpq
    obtain ⟨rfl, rfl⟩ := hpq
    obtain ⟨c, hc⟩ := List.mem_iff_getElem?.1 hm
    rw [List.getElem?_zip_eq_some] at hc
    obtain ⟨x, hx, hxc⟩ := (set_mem ha c).1 hc.1
    obtain ⟨y, hy, hyc⟩ := (set_mem hb c).1 hc.2
    refine ⟨x, hx, List.any_eq_true.2 ⟨y, hy, ?_⟩⟩
    have := (Gl.ok_same (ha x hx) (hb y hy)).1 (by omega)
    simpa using this
  · rintro ⟨x, hx, h⟩
    obtain ⟨y, hy, h⟩ := List.any_eq_true.1 h
    have hc := (Gl.ok_same (ha x hx) (hb y hy)).2 (by simpa using h)
    have hxc := Gl.ok_cell (ha x hx)
    obtain ⟨c, hcc⟩ : ∃ c : Nat, x.cell = c := ⟨x.cell.toNat, by omega⟩
    refine ⟨(true, true), List.mem_iff_getElem?.2 ⟨c, ?_⟩, rfl⟩
    rw [List.getElem?_zip_eq_some]
    exact ⟨(set_mem ha c).2 ⟨x, hx, hcc⟩, (set_mem hb c).2 ⟨y, hy, by omega⟩⟩
/-- the overlap of two events, if there is one: 'E' gives the span and the glyphs of an event -/
def ovOne (E : Nat → Int × Int × List Gl) (i j : Nat) : Option Ov :=
  if max (E i).1 (E j).1 < min (E i).2.1 (E j).2.1 ∧ meetB (E i).2.2 (E j).2.2 = true then some ⟨i, j, max (E i).1 (E j).1, min (E i).2.1 (E j).2.1⟩ else none
/-- in the order of the first event, of n: those of the events up to k, and of the k-th with those up to m -/
def ovRow (E : Nat → Int × Int × List Gl) (i k m : Nat) : List Ov := (List.range' k (m - k)).filterMap fun j => ovOne E i j
def ovR (E : Nat → Int × Int × List Gl) (n k : Nat) : List Ov := (List.range k).flatMap fun i => ovRow E i (i + 1) n
/-- in the order of the second event -/
def ovCol (E : Nat → Int × Int × List Gl) (j k : Nat) : List Ov := (List.range k).filterMap fun i => ovOne E i j
def ovP (E : Nat → Int × Int × List Gl) (k : Nat) : List Ov := (List.range k).flatMap fun j => ovCol E j j
def ovLt (x y : Ov) : Prop := x.a < y.a ∨ (x.a = y.a ∧ x.b < y.b)
theorem ovOne_some {E : Nat → Int × Int × List Gl} {i j : Nat} {o : Ov} (h : ovOne E i j = some o) : o.a = i ∧ o.b = j := by
  unfold ovOne at h
  split at h
  · obtain rfl := Option.some.inj h; exact ⟨rfl, rfl⟩
  · simp at h
theorem ovR_mem {E : Nat → Int × Int × List Gl} {n k : Nat} {o : Ov} : o ∈ ovR E n k ↔ ∃ i j, i < k ∧ i < j ∧ j < n ∧ ovOne E i j = some o := by
  unfold ovR ovRow
  simp only [List.mem_flatMap, List.mem_range, List.mem_filterMap, List.mem_range'_1]
  constructor
  · rintro ⟨i, hi, j, hj, h⟩; exact ⟨i, j, hi, by omega, by omega, h⟩
  · rintro ⟨i, j, hi, hij, hj, h⟩; exact ⟨i, hi, j, by omega, h⟩
theorem ovP_mem {E : Nat → Int × Int × List Gl} {k : Nat} {o : Ov} : o ∈ ovP E k ↔ ∃ i j, i < j ∧ j < k ∧ ovOne E i j = some o := by
  unfold ovP ovCol
  simp only [List.mem_flatMap, List.mem_range, List.mem_filterMap]
  constructor
  · rintro ⟨j, hj, i, hi, h⟩; exact ⟨i, j, hi, hj, h⟩
  · rintro ⟨i, j, hi, hj, h⟩; exact ⟨j, hj, i, hi, h⟩
theorem pairwise_flatMap' {α β : Type} {R : β → β → Prop} {f : α → List β} : ∀ {l : List α}, (∀ x ∈ l, (f x).Pairwise R) → l.Pairwise (fun x y => ∀ a ∈ f x, ∀ b ∈ f y, R a b) → (l.flatMap f).Pairwise R
  | [], _, _ => by simp
  | x :: l, h1, h2 => by
    rw [List.pairwise_cons] at h2
    rw [List.flatMap_cons, List.pairwise_append]
    refine ⟨h1 x (by simp), pairwise_flatMap' (fun y hy => h1 y (by simp [hy])) h2.2, fun a ha b hb => ?_⟩
    obtain ⟨y, hy, hb⟩ := List.mem_flatMap.1 hb
    exact h2.1 y hy a ha b hb
theorem ovR_asc (E : Nat → Int × Int × List Gl) (n k : Nat) : (ovR E n k).Pairwise ovLt := by
  unfold ovR ovRow
  refine pairwise_flatMap' (fun i _ => ?_) ?_
  · rw [List.pairwise_filterMap]
    refine (List.pairwise_lt_range').imp fun {p q} hpq x hx y hy => ?_
    obtain ⟨h1, h2⟩ := ovOne_some hx
    obtain ⟨h3, h4⟩ := ovOne_some hy
    exact .inr ⟨by omega, by omega⟩
  · refine (List.pairwise_lt_range).imp fun {p q} hpq x hx y hy => ?_
    obtain ⟨u, _, hx⟩ := List.mem_filterMap.1 hx
    obtain ⟨v, _, hy⟩ := List.mem_filterMap.1 hy
    obtain ⟨h1, h2⟩ := ovOne_some hx
    obtain ⟨h3, h4⟩ := ovOne_some hy
    exact .inl (by omega)
theorem ovP_nodup (E : Nat → Int × Int × List Gl) (k : Nat) : (ovP E k).Pairwise fun x y => ¬ (x.a = y.a ∧ x.b = y.b) := by
  unfold ovP ovCol
  refine pairwise_flatMap' (fun j _ => ?_) ?_
  · rw [List.pairwise_filterMap]
    refine (List.pairwise_lt_range).imp fun {p q} hpq x hx y hy => ?_
    obtain ⟨h1, h2⟩ := ovOne_some hx
    obtain ⟨h3, h4⟩ := ovOne_some hy
    rintro ⟨e, -⟩; omega
  · refine (List.pairwise_lt_range).imp fun {p q} hpq x hx y hy => ?_
    obtain ⟨u, _, hx⟩ := List.mem_filterMap.1 hx
    obtain ⟨v, _, hy⟩ := List.mem_filterMap.1 hy
    obtain ⟨h1, h2⟩ := ovOne_some hx
    obtain ⟨h3, h4⟩ := ovOne_some hy
    rintro ⟨-, e⟩; omega
theorem ovLt_irrefl (x : Ov) : ¬ ovLt x x := by unfold ovLt; omega
theorem ovLt_asymm {x y : Ov} (h : ovLt x y) : ¬ ovLt y x := by unfold ovLt at *; omega
/-- two rows of overlaps, ascending, with the same elements, are the same -/
theorem ov_unique : ∀ {l m : List Ov}, l.Pairwise ovLt → m.Pairwise ovLt → (∀ x, x ∈ l ↔ x ∈ m) → l = m
  | [], [], _, _, _ => rfl
  | [], b :: m, _, _, h => absurd ((h b).2 (by simp)) (by simp)
  | a :: l, [], _, _, h => absurd ((h a).1 (by simp)) (by simp)
  | a :: l, b :: m, hl, hm, h => by
    rw [List.pairwise_cons] at hl hm
    have hab : a = b := by
      rcases List.mem_cons.1 ((h a).1 (by simp)) with e | e
      · exact e
      · rcases List.mem_cons.1 ((h b).2 (by simp)) with e' | e'
        · exact e'.symm
        · exact absurd (hm.1 a e) (ovLt_asymm (hl.1 b e'))
    subst hab
    refine congrArg _ (ov_unique hl.2 hm.2 fun x => ⟨fun hx => ?_, fun hx => ?_⟩)
    · rcases List.mem_cons.1 ((h x).1 (by simp [hx])) with e | e
      · subst e; exact absurd (hl.1 _ hx) (ovLt_irrefl _)
      · exact e
    · rcases List.mem_cons.1 ((h x).2 (by simp [hx])) with e | e
      · subst e; exact absurd (hm.1 _ hx) (ovLt_irrefl _)
      · exact e
/-- what the sort makes of the one order is the other -/
theorem ov_sorted {E : Nat → Int × Int × List Gl} {n : Nat} {l : List Ov} (hp : l.Perm (ovP E n)) (hs : l.Pairwise fun x y => ¬ ovLt y x) : l = ovR E n n := by
  have hn : l.Pairwise fun x y => ¬ (x.a = y.a ∧ x.b = y.b) := (hp.symm.pairwise (ovP_nodup E n) (fun {x y} h => fun ⟨e1, e2⟩ => h ⟨e1.symm, e2.symm⟩))
  refine ov_unique ((hs.and hn).imp fun {x y} h => ?_) (ovR_asc E n n) fun x => ?_
  · have h1 := h.1
    have h2 := h.2
    unfold ovLt at h1 ⊢
    omega
  · rw [hp.mem_iff, ovP_mem, ovR_mem]
    constructor
    · rintro ⟨i, j, h1, h2, h3⟩; exact ⟨i, j, by omega, h1, h2, h3⟩
    · rintro ⟨i, j, _, h1, h2, h3⟩; exact ⟨i, j, h1, h2, h3⟩
/-- without overlaps -/
theorem ov_none {E : Nat → Int × Int × List Gl} {n : Nat} (h : ovR E n n = []) {i j : Nat} (hij : i < j) (hj : j < n) (hs : max (E i).1 (E j).1 < min (E i).2.1 (E j).2.1) : meetB (E i).2.2 (E j).2.2 = false := by
  cases hm : meetB (E i).2.2 (E j).2.2
  · rfl
  · have : (⟨i, j, max (E i).1 (E j).1, min (E i).2.1 (E j).2.1⟩ : Ov) ∈ ovR E n n := ovR_mem.2 ⟨i, j, by omega, hij, hj, by unfold ovOne; rw [if_pos ⟨hs, hm⟩]⟩
    rw [h] at this
    simp at this
end Go.Proofs.YtajbhfmdmajpmaaGreatDoor
