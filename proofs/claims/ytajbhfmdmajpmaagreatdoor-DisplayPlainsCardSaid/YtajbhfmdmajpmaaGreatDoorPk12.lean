/- Laid together: The walks of display.place and of the reference's glyphs, at accepted events; display.cell. A region that draws its order, walked once in the order of the text, where its calls may make memory: the class of the worlds that are greater than one. The walks of display.cell, display.Check and of the reference's Check of screens. The walks of the reference's documents: Find, number; spanned. The walks of document.At and of the reference's. -/
import Derived.Test.YtajbhfmdmajpmaaGreatDoorPk10
import Derived.Test.YtajbhfmdmajpmaaGreatDoorPk11
import Derived.Test.YtajbhfmdmajpmaaGreatDoorPk03
import Derived.Test.YtajbhfmdmajpmaaGreatDoorPk01
import Derived.Test.YtajbhfmdmajpmaaGreatDoorPk08
import Derived.IntWalk
import Derived.Test.YtajbhfmdmajpmaaGreatDoorPk06

/-! Gls -/
namespace Go.Proofs.YtajbhfmdmajpmaaGreatDoor
set_option linter.unusedVariables false
set_option linter.unusedSimpArgs false
open Go.RowKit
def GlsAt (w : World) (A : Option Addr) (n : Nat) (l : List Gl) : Prop := Sl w 6 (Cells Gl.vals) A n l
theorem GlsAt.ext {w w1 : World} {A : Option Addr} {n : Nat} {l : List Gl} (h : GlsAt w A n l) (k : Ext w w1) : GlsAt w1 A n l := Sl.ext (Cells.stays _) h k
theorem GlsAt.at6 {w : World} {A : Option Addr} {n : Nat} {l : List Gl} (h : GlsAt w A n l) {i : Nat} (hi : i < n) : ∃ b off g, A = some ⟨b, off, none⟩ ∧ l[i]? = some g ∧
    (w.cell? ⟨b, off + i * 6, none⟩ = some (.int .i64 g.row) ∧ w.cell? ⟨b, off + i * 6 + 1, none⟩ = some (.int .i64 g.col) ∧ w.cell? ⟨b, off + i * 6 + 2, none⟩ = some (.int .i32 g.ch) ∧
      w.cell? ⟨b, off + i * 6 + 3, none⟩ = some (.int .u8 g.color) ∧ w.cell? ⟨b, off + i * 6 + 4, none⟩ = some (.bool g.italic) ∧ w.cell? ⟨b, off + i * 6 + 5, none⟩ = some (.bool g.under)) := by
  obtain ⟨b, off, g, hA, hg, hC⟩ := h.at_ hi
  exact ⟨b, off, g, hA, hg, by simpa using hC 0 _ rfl, hC 1 _ rfl, hC 2 _ rfl, hC 3 _ rfl, hC 4 _ rfl, hC 5 _ rfl⟩
theorem info_gl : (Tryz.prog.info? 58).map (fun i => (i.zero, i.size, i.bytes)) = some (some (.agg #[.int .i64 0, .int .i64 0, .int .i32 0, .int .u8 0, .bool false, .bool false]), 6, 24) := by kernel_rfl
theorem size_gl : (Tryz.prog.info? 58).map (·.size) = some 6 := by kernel_rfl
def GlsPost (l : List Gl) (w : World) (en : Ending) (w' : World) : Prop := ∃ A c, en = .returned (.slice A l.length c) ∧ GlsAt w' A l.length l ∧ l.length ≤ c ∧ Ext w w' ∧ ∀ ad, A = some ad → w.heap.size ≤ ad.block ∧ Typed w' 58 ad.block
theorem line_prefix (row col : Int) : ∀ (l : List Ch) (k n : Nat), lineGl row col k (l.take n) <+: lineGl row col k l
  | [], k, n => by simp [lineGl]
  | a :: l, k, 0 => by simp [lineGl]
  | a :: l, k, n + 1 => by
    have := line_prefix row col l (k + 1) n
    simp only [List.take_succ_cons, lineGl]
    split
    · exact this
    · exact (List.cons_prefix_cons).2 ⟨rfl, this⟩
theorem spots_prefix : ∀ (ss : List Spot) (rs : List Row) (k : Nat), spotsGl (ss.take k) rs <+: spotsGl ss rs
  | [], rs, k => by simp [spotsGl]
  | s :: ss, [], k => by cases k <;> simp [spotsGl]
  | s :: ss, r :: rs, 0 => by simp [spotsGl]
  | s :: ss, r :: rs, k + 1 => by
    simp only [List.take_succ_cons, spotsGl]
    exact (List.prefix_append_right_inj _).2 (spots_prefix ss rs k)
theorem glTo_prefix {ss : List Spot} {rs : List Row} {i : Nat} (k : Nat) {s : Spot} {r : Row} (h1 : ss[i]? = some s) (h2 : rs[i]? = some r) : spotsGl (ss.take i) rs ++ lineGl s.row s.col 0 ((rowCh r).take k) <+: spotsGl ss rs := by
  refine List.IsPrefix.trans ?_ (spots_prefix ss rs (i + 1))
  rw [spots_at ss rs i s r h1 h2]
  exact (List.prefix_append_right_inj _).2 (line_prefix _ _ _ _ _)
theorem spots_get {r : Reg} {top : Int} : ∀ {l : List Int} {i k : Nat} {s : Spot}, (r.spots top i l)[k]? = some s → ∃ x, l[k]? = some x ∧ s = r.spot top (i + k) x
  | [], i, k, s, h => by simp [Reg.spots] at h
  | a :: l, i, 0, s, h => by simp [Reg.spots] at h; exact ⟨a, rfl, h.symm⟩
  | a :: l, i, k + 1, s, h => by
    simp only [Reg.spots, List.getElem?_cons_succ] at h
    obtain ⟨x, h1, h2⟩ := spots_get h
    exact ⟨x, by simpa using h1, by rw [h2, show i + 1 + k = i + (k + 1) by omega]⟩
theorem spots_length {r : Reg} {top : Int} : ∀ (l : List Int) (i : Nat), (r.spots top i l).length = l.length
  | [], i => rfl
  | a :: l, i => by simp [Reg.spots, spots_length l]
theorem spotsE_len {e : Ev} {regs : List Reg} (h : e.err regs = 0) : (e.spots regs).length = e.rows.length := by
  obtain ⟨r, hr, hu, hh, h4, hl, hrows, hs, hsp⟩ := ev_spots h
  rw [hsp, spots_length, List.length_map]
/-- a row's first cell, of an accepted event -/
theorem spot_at {e : Ev} {regs : List Reg} (h : e.err regs = 0) {i : Nat} {s : Spot} (hs : (e.spots regs)[i]? = some s) :
    ∃ q, e.rows[i]? = some q ∧ s.len = rowLen q ∧ 0 ≤ rowLen q ∧ rowLen q ≤ 32 ∧ 0 ≤ s.row ∧ s.row < 15 ∧ 0 ≤ s.col ∧ s.col + rowLen q ≤ 32 := by
  obtain ⟨r, hr, hu, hh, h4, hl, hrows, hse, hsp⟩ := ev_spots h
  have hb := usable_bounds hu
  have hf := usable_fit hu
  rw [hsp] at hs
  obtain ⟨x, h1, rfl⟩ := spots_get hs
  rw [List.getElem?_map] at h1
  cases hq : e.rows[i]? with
  | none => rw [hq] at h1; simp at h1
  | some q =>
    rw [hq] at h1
    simp at h1
    subst h1
    have hq0 := lens_ok hl (rowLen q) (List.mem_map.2 ⟨q, List.mem_of_getElem? hq, rfl⟩)
    have hi := (List.getElem?_eq_some_iff.1 hq).1
    have ht : 0 ≤ r.top' e.rows.length ∧ r.top' e.rows.length + e.rows.length ≤ 15 := by
      unfold Reg.top'
      split <;> omega
    refine ⟨q, rfl, rfl, hq0.1, by omega, ?_, ?_, ?_, ?_⟩
    · show 0 ≤ r.top' e.rows.length + ((0 + i : Nat) : Int); omega
    · show r.top' e.rows.length + ((0 + i : Nat) : Int) < 15; omega
    · unfold Reg.spot
      dsimp only
      split
      · omega
      · split <;> omega
    · unfold Reg.spot
      dsimp only
      split
      · omega
      · split <;> omega
def GlRel (w1 : World) (ss : List Spot) (rs : List Row) (n : Nat) (v i : Value) (wr : World) : Prop :=
  ∃ k : Nat, k ≤ n ∧ i = .int .i64 k ∧ Ext w1 wr ∧ wr.ownsRow w1.heap.size 58 6 v (spotsGl (ss.take k) rs).length ((spotsGl (ss.take k) rs).flatMap Gl.vals)
def GlRel2 (w1 : World) (gs : Nat) (p : List Gl) (s : Spot) (cs : List Ch) (v i : Value) (wr : World) : Prop :=
  ∃ k : Nat, k ≤ cs.length ∧ i = .int .i64 k ∧ Ext w1 wr ∧ Blk wr gs 119 s.cells.toArray ∧ wr.ownsRow w1.heap.size 58 6 v (p ++ lineGl s.row s.col 0 (cs.take k)).length ((p ++ lineGl s.row s.col 0 (cs.take k)).flatMap Gl.vals)
theorem Blk.grownT {w w1 : World} {g : Nat} {t T : TypeId} {cs : Array Value} {row : Option Nat} (h : Blk w g t cs) (hg : w.grownBy w1 row) (hr : ∀ q, row = some q → Typed w T q) (hne : t ≠ T) : Blk w1 g t cs := by
  refine (hg.block g h.lt (fun e => ?_)).trans h
  exact Typed.ne h.typed (hr g e.symm) hne rfl
set_option maxRecDepth 100000 in
set_option maxHeartbeats 8000000 in
theorem Place_gls (e : Ev) (A : Option Addr) (n c : Nat) (A2 : Option Addr) (n2 c2 : Nat) (regs : List Reg) (w : World) (hE : Env w) (he : EvAt w e A n c) (hb : ∀ r ∈ e.rows, RowSmall r) (hr : RegsAt w A2 n2 regs) (hr2 : n2 ≤ 9223372036854775807) (hrs : RegsSmall regs) (h0 : e.err regs = 0) :
    Calls Tryz.prog 40 #[.slice A2 n2 c2, .agg (e.cells A n c)] w (GlsPost (e.gls regs) w) := by
  have hn24 : n * 24 ≤ 140737488355328 := by have := he.2; omega
  have HA := Lib.hid he.1
  have HLn := Lib.hid he.len
  have HEn := Lib.hid hE
  have HBd := Lib.hid hb
  have HG := Lib.hid (fun i s (hs : (e.spots regs)[i]? = some s) => spot_at h0 hs)
  have HSl := Lib.hid (spotsE_len h0)
  have HGe : Hid (e.gls regs = spotsGl (e.spots regs) e.rows) := rfl
  have HLe := Lib.hid (gls_len h0)
  have HSe : Hid (e.spotsErr regs = 0) := by obtain ⟨r, a1, a2, a3, a4, a5, a6, a7, a8⟩ := ev_spots h0; exact a7
  have HPr : Hid (∀ k, spotsGl ((e.spots regs).take k) e.rows <+: e.gls regs) := fun k => spots_prefix _ _ k
  have HPl : Hid (∀ i k s r, (e.spots regs)[i]? = some s → e.rows[i]? = some r → spotsGl ((e.spots regs).take i) e.rows ++ lineGl s.row s.col 0 ((rowCh r).take k) <+: e.gls regs) := fun i k s r h1 h2 => glTo_prefix k h1 h2
  have HSp := Lib.hid (fun w' (hx : Ext w w') => Spots_any e A n c A2 n2 c2 regs w' (hE.ext hx) ⟨he.1.ext hx, he.2⟩ hb (hr.ext hx) hr2 hrs)
  clear hE he hb hr hrs h0
  unfold SpotsPost at HSp
  unfold Ev.cells at *
  have HX0 := Lib.hid ((Ext.refl w).alloc (.cells #[.int .i64 e.id, .int .i64 e.inn, .int .i64 e.out, .string e.region, .int .u8 e.kind, .string e.speaker, .slice A n c] 53))
  have HB0 := Lib.hid (Blk.new w 53 #[.int .i64 e.id, .int .i64 e.inn, .int .i64 e.out, .string e.region, .int .u8 e.kind, .string e.speaker, .slice A n c])
  go_enter Tryz.func40, Tryz.ntmps40
  go_wp2_with fail
  refine (HSp.out _ HX0.out).mono ?_
  rintro en w1 ⟨SA, sn, sc, rfl, hS, hsc, hx1⟩
  have HS := Lib.hid hS
  have HX1 := Lib.hid (HX0.out.trans hx1)
  have HB1 := Lib.hid (HB0.out.ext hx1)
  have hsn : sn = n := by have h1 := hS.len; have h2 := HSl.out; have h3 := HLn.out; omega
  subst hsn
  clear hS hx1 HX0 HB0 HSp
  go_wp2_with fail
  go_loopw [5, 22] (fun v i wr => GlRel w1 (e.spots regs) e.rows sn v i wr) (fun _ i _ => sn - (intOf i).toNat)
  case atStart => exact ⟨0, Nat.zero_le _, rfl, Ext.refl _, ⟨rfl, .inl ⟨rfl, rfl⟩⟩⟩
  case round =>
    obtain ⟨k, hk, rfl, hx, hown⟩ := hrel
    have HXx := Lib.hid hx
    have HO := Lib.hid hown
    clear hx hown
    by_cases hlt : k < sn
    · obtain ⟨sb, soff, s, rfl, hs, hsC⟩ := (HS.out.ext (Cells.stays _) HXx.out).at_ hlt
      have s0 := hsC 0 _ rfl
      have s1 := hsC 1 _ rfl
      have s2 := hsC 2 _ rfl
      simp only [Nat.add_zero] at s0
      obtain ⟨q, hq, hslen, hl0, hl32, hr0, hr15, hc0, hc32⟩ := HG.out k s hs
      have HT := Lib.hid (spots_at (e.spots regs) e.rows k s q hs hq)
      have HPk := Lib.hid (fun j => HPl.out k j s q hs hq)
      have HBq := Lib.hid (HBd.out q (List.mem_of_getElem? hq))
      have HQ := Lib.hid hq
      obtain ⟨m, hm⟩ : ∃ m : Nat, rowLen q = m := ⟨(rowLen q).toNat, by omega⟩
      have HMl : Hid ((rowCh q).length = m) := by show _ = _; have := (rowLen_ch hl0).2; omega
      have HL0 := Lib.hid hl0
      rw [hm] at hslen
      have hm32 : m ≤ 32 := by omega
      have hcs : s.col + m ≤ 32 := by omega
      clear hs hsC hq hm hl32 hl0 hc32
      obtain ⟨srow, scol, slen⟩ := s
      dsimp only at *
      subst hslen
      have HXs := Lib.hid ((HX1.out.trans HXx.out).alloc (.cells #[.int .i64 srow, .int .i64 scol, .int .i64 m] 119))
      have HBs := Lib.hid (Blk.new wr 119 #[.int .i64 srow, .int .i64 scol, .int .i64 m])
      have HBe := Lib.hid ((HB1.out.ext HXx.out).alloc (.cells #[.int .i64 srow, .int .i64 scol, .int .i64 m] 119))
      have HOs := Lib.hid (HO.out.alloc (.cells #[.int .i64 srow, .int .i64 scol, .int .i64 m] 119))
      have HXw := Lib.hid (HXx.out.alloc (.cells #[.int .i64 srow, .int .i64 scol, .int .i64 m] 119))
      go_wp2_with fail
      clear s0 s1 s2
      generalize wr.alloc (.cells #[.int .i64 srow, .int .i64 scol, .int .i64 m] 119) = W2 at *
      generalize wr.heap.size = gs at *
      have hszW := HXw.out.size
      go_loopw [5, 29] (fun v i wq => GlRel2 w1 gs (spotsGl ((e.spots regs).take k) e.rows) ⟨srow, scol, m⟩ (rowCh q) v i wq) (fun _ i _ => m - (intOf i).toNat)
      case atStart => exact ⟨0, Nat.zero_le _, rfl, HXw.out, HBs.out, by simp only [List.take_zero, lineGl, List.append_nil]; exact HOs.out⟩
      case round =>
        obtain ⟨j, hj, rfl, hxq, hbsq, hownq⟩ := hrel
        dsimp only at hownq
        have HXq := Lib.hid hxq
        have HOq := Lib.hid hownq
        have HBsq : Hid (Blk wr gs 119 #[.int .i64 srow, .int .i64 scol, .int .i64 m]) := hbsq
        have HBeq := Lib.hid (HB1.out.ext hxq)
        have HXqw := Lib.hid (HX1.out.trans hxq)
        clear hxq hownq hbsq
        have d2 := HBsq.out.cell 2
        simp at d2
        by_cases hjm : j < m
        · obtain ⟨ch, hch⟩ : ∃ ch, (rowCh q)[j]? = some ch := ⟨_, List.getElem?_eq_getElem (by rw [HMl.out]; exact hjm)⟩
          have HV := Lib.hid (line_at (row := srow) (col := scol) (rowCh q) 0 j ch hch)
          obtain ⟨rb, roff, q', hA', hq', A', n', c', hcell, hnc, hc40, hruns⟩ := (HA.out.ext HXqw.out).at_ (i := k) hlt
          obtain rfl : q' = q := by have := HQ.out; rw [hq'] at this; exact Option.some.inj this
          subst hA'
          simp only [Nat.mul_one] at hcell
          have HAt := Lib.hid (fun w' (hx : Ext wr w') => SAt_any A' n' c' q' j ch w' (HEn.out.ext (HXqw.out.trans hx)) (hruns.ext hx) (by have := HBq.out.1; omega) (by omega) HL0.out (by omega) hch)
          have hpl : (spotsGl ((e.spots regs).take k) e.rows ++ lineGl srow scol 0 ((rowCh q').take j)).length ≤ 480 := by
            have h1 := (HPk.out j).length_le
            have h2 := HLe.out
            omega
          have hpl2 := hpl
          rw [List.length_append] at hpl2
          have d0 := HBsq.out.cell 0
          have d1 := HBsq.out.cell 1
          have e5 := HBeq.out.cell 5
          have e6 := HBeq.out.cell 6
          simp at d0 d1 e5 e6
          clear hch hq' hruns
          go_wp2_with fail
          refine (HAt.out _ (Ext.refl _)).mono ?_
          rintro en w3 ⟨rfl, hx3⟩
          unfold Ch.style
          have HOx := Lib.hid ((own_ext HOq.out hx3).alloc (.cells #[.int .u8 ch.color, .bool ch.italic, .bool ch.under] 56))
          have HXx3 := Lib.hid ((HXq.out.trans hx3).alloc (.cells #[.int .u8 ch.color, .bool ch.italic, .bool ch.under] 56))
          have HBs3 := Lib.hid ((HBsq.out.ext hx3).alloc (.cells #[.int .u8 ch.color, .bool ch.italic, .bool ch.under] 56))
          have HBy3 := Lib.hid (Blk.new w3 56 #[.int .u8 ch.color, .bool ch.italic, .bool ch.under])
          clear d0 d1 e5 e6 hx3 hcell
          by_cases h32 : ch.r = 32
          · have hc32 : (ch.r != 32) = false := by simpa using h32
            have HV2 : Hid (lineGl srow scol 0 ((rowCh q').take (j + 1)) = lineGl srow scol 0 ((rowCh q').take j)) := by show _ = _; rw [HV.out, if_pos h32, List.append_nil]
            clear HV h32
            go_wp2_with fail
            exact ⟨⟨j + 1, by rw [HMl.out]; omega, by go_num, HXx3.out, HBs3.out, by dsimp only; rw [HV2.out]; exact HOx.out⟩, by simp [intOf]; omega⟩
          · have hc32 : (ch.r != 32) = true := by simpa using h32
            have HV2 : Hid (lineGl srow scol 0 ((rowCh q').take (j + 1)) = lineGl srow scol 0 ((rowCh q').take j) ++ [chGl srow (scol + j) ch]) := by show _ = _; rw [HV.out, if_neg h32, Nat.zero_add]
            clear HV h32
            go_upto_region 11 with fail
            clear hc32
            have hszx := HXx3.out.size
            generalize w3.alloc (.cells #[.int .u8 ch.color, .bool ch.italic, .bool ch.under] 56) = W4 at *
            generalize w3.heap.size = gy at *
            have d0 := HBs3.out.cell 0
            have d1 := HBs3.out.cell 1
            have y0 := HBy3.out.cell 0
            have y1 := HBy3.out.cell 1
            have y2 := HBy3.out.cell 2
            simp at d0 d1 y0 y1 y2
            go_wp2_with (at_builtin; refine wpList_append1 rfl (.tmp 48) (.tmp 58) 30 rfl info_gl Tryz.underlying30 rfl (by decide) (HOx.out.alloc _) (by exact rfl) W4.heap.size _ (by exact rfl) (by exact Blk.new' rfl) (by exact rfl) (by simp [Value.oneCell']) (by omega) (by simp [maxLen]; omega) (by simp; omega) ?_; intro v' w5 hown5 hgr)
            refine ⟨⟨j + 1, by rw [HMl.out]; omega, by go_num, (HXx3.out.alloc _).grown hgr (fun q hq => own_lt HOx.out q hq), (HBs3.out.alloc _).grownT hgr (fun q hq => (own_typed (HOx.out.alloc _)) q hq) (by decide), ?_⟩, by simp [intOf]; omega⟩
            dsimp only
            rw [HV2.out, ← List.append_assoc, List.length_append, List.flatMap_append]
            exact hown5
        · have hjm2 : j = m := by have := HMl.out; omega
          subst hjm2
          have HTk : Hid ((rowCh q).take j = rowCh q) := List.take_of_length_le (by rw [HMl.out]; omega)
          go_wp2_with fail
          refine ⟨⟨k + 1, by omega, by go_num, HXq.out, ?_⟩, by simp [intOf]; omega⟩
          rw [HT.out]
          have := HOq.out
          rw [HTk.out] at this
          exact this
    · have hkn : k = sn := by omega
      subst hkn
      have HTa : Hid (spotsGl ((e.spots regs).take k) e.rows = e.gls regs) := by show _ = _; rw [HGe.out, List.take_of_length_le (by rw [HSl.out, HLn.out]; omega)]
      have hO := HO.out
      rw [HTa.out] at hO
      obtain ⟨A1, c1, rfl, hc, _, hsl, hfr⟩ := own_sl (f := Gl.vals) (size := 6) (fun _ => rfl) rfl hO
      have HSl2 : Hid (GlsAt wr A1 (e.gls regs).length (e.gls regs)) := hsl
      have HXf := Lib.hid (HX1.out.trans HXx.out)
      have HFr : Hid (∀ ad, A1 = some ad → w.heap.size ≤ ad.block ∧ Typed wr 58 ad.block) := fun ad h => ⟨Nat.le_trans HX1.out.size (hfr ad h), own_typed hO _ (by rw [h]; rfl)⟩
      clear hO hsl hfr HO HXx
      go_wp2_with fail
      go_ret
      exact ⟨A1, c1, rfl, HSl2.out, hc, HXf.out, HFr.out⟩
set_option maxRecDepth 100000 in
set_option maxHeartbeats 8000000 in
theorem R32glyphs (e : Ev) (A : Option Addr) (n c : Nat) (A2 : Option Addr) (n2 c2 : Nat) (regs : List Reg) (w : World) (hE : Env w) (he : EvAt w e A n c) (hb : ∀ r ∈ e.rows, RowSmall r) (hr : RegsAt w A2 n2 regs) (hr2 : n2 ≤ 9223372036854775807) (hrs : RegsSmall regs) (h0 : e.err regs = 0) :
    Calls Tryz.prog 46 #[.slice A2 n2 c2, .agg (e.cells A n c)] w (GlsPost (e.gls regs) w) := by
  have hn24 : n * 24 ≤ 140737488355328 := by have := he.2; omega
  have HA := Lib.hid he.1
  have HLn := Lib.hid he.len
  have HEn := Lib.hid hE
  have HBd := Lib.hid hb
  have HG := Lib.hid (fun i s (hs : (e.spots regs)[i]? = some s) => spot_at h0 hs)
  have HSl := Lib.hid (spotsE_len h0)
  have HGe : Hid (e.gls regs = spotsGl (e.spots regs) e.rows) := rfl
  have HLe := Lib.hid (gls_len h0)
  have HSe : Hid (e.spotsErr regs = 0) := by obtain ⟨r, a1, a2, a3, a4, a5, a6, a7, a8⟩ := ev_spots h0; exact a7
  have HPr : Hid (∀ k, spotsGl ((e.spots regs).take k) e.rows <+: e.gls regs) := fun k => spots_prefix _ _ k
  have HPl : Hid (∀ i k s r, (e.spots regs)[i]? = some s → e.rows[i]? = some r → spotsGl ((e.spots regs).take i) e.rows ++ lineGl s.row s.col 0 ((rowCh r).take k) <+: e.gls regs) := fun i k s r h1 h2 => glTo_prefix k h1 h2
  have HSp := Lib.hid (fun w' (hx : Ext w w') => R11Spots_ok e A n c A2 n2 c2 regs w' (hE.ext hx) ⟨he.1.ext hx, he.2⟩ hb (hr.ext hx) hr2 hrs h0)
  clear hE he hb hr hrs h0
  unfold SpotsPost at HSp
  unfold Ev.cells at *
  have HX0 := Lib.hid ((Ext.refl w).alloc (.cells #[.int .i64 e.id, .int .i64 e.inn, .int .i64 e.out, .string e.region, .int .u8 e.kind, .string e.speaker, .slice A n c] 53))
  have HB0 := Lib.hid (Blk.new w 53 #[.int .i64 e.id, .int .i64 e.inn, .int .i64 e.out, .string e.region, .int .u8 e.kind, .string e.speaker, .slice A n c])
  go_enter Tryz.func46, Tryz.ntmps46
  go_wp2_with fail
  refine (HSp.out _ HX0.out).mono ?_
  rintro en w1 ⟨SA, sn, sc, rfl, hS, hsc, hx1⟩
  have HS := Lib.hid hS
  have HX1 := Lib.hid (HX0.out.trans hx1)
  have HB1 := Lib.hid (HB0.out.ext hx1)
  have hsn : sn = n := by have h1 := hS.len; have h2 := HSl.out; have h3 := HLn.out; omega
  subst hsn
  clear hS hx1 HX0 HB0 HSp
  go_wp2_with fail
  go_loopw [7, 22] (fun v i wr => GlRel w1 (e.spots regs) e.rows sn v i wr) (fun _ i _ => sn - (intOf i).toNat)
  case atStart => exact ⟨0, Nat.zero_le _, rfl, Ext.refl _, ⟨rfl, .inl ⟨rfl, rfl⟩⟩⟩
  case round =>
    obtain ⟨k, hk, rfl, hx, hown⟩ := hrel
    have HXx := Lib.hid hx
    have HO := Lib.hid hown
    clear hx hown
    by_cases hlt : k < sn
    · obtain ⟨sb, soff, s, rfl, hs, hsC⟩ := (HS.out.ext (Cells.stays _) HXx.out).at_ hlt
      have s0 := hsC 0 _ rfl
      have s1 := hsC 1 _ rfl
      have s2 := hsC 2 _ rfl
      simp only [Nat.add_zero] at s0
      obtain ⟨q, hq, hslen, hl0, hl32, hr0, hr15, hc0, hc32⟩ := HG.out k s hs
      have HT := Lib.hid (spots_at (e.spots regs) e.rows k s q hs hq)
      have HPk := Lib.hid (fun j => HPl.out k j s q hs hq)
      have HBq := Lib.hid (HBd.out q (List.mem_of_getElem? hq))
      have HQ := Lib.hid hq
      obtain ⟨m, hm⟩ : ∃ m : Nat, rowLen q = m := ⟨(rowLen q).toNat, by omega⟩
      have HMl : Hid ((rowCh q).length = m) := by show _ = _; have := (rowLen_ch hl0).2; omega
      have HL0 := Lib.hid hl0
      rw [hm] at hslen
      have hm32 : m ≤ 32 := by omega
      have hcs : s.col + m ≤ 32 := by omega
      clear hs hsC hq hm hl32 hl0 hc32
      obtain ⟨srow, scol, slen⟩ := s
      dsimp only at *
      subst hslen
      have HXs := Lib.hid ((HX1.out.trans HXx.out).alloc (.cells #[.int .i64 srow, .int .i64 scol, .int .i64 m] 119))
      have HBs := Lib.hid (Blk.new wr 119 #[.int .i64 srow, .int .i64 scol, .int .i64 m])
      have HBe := Lib.hid ((HB1.out.ext HXx.out).alloc (.cells #[.int .i64 srow, .int .i64 scol, .int .i64 m] 119))
      have HOs := Lib.hid (HO.out.alloc (.cells #[.int .i64 srow, .int .i64 scol, .int .i64 m] 119))
      have HXw := Lib.hid (HXx.out.alloc (.cells #[.int .i64 srow, .int .i64 scol, .int .i64 m] 119))
      go_wp2_with fail
      clear s0 s1 s2
      generalize wr.alloc (.cells #[.int .i64 srow, .int .i64 scol, .int .i64 m] 119) = W2 at *
      generalize wr.heap.size = gs at *
      have hszW := HXw.out.size
      go_loopw [7, 10] (fun v i wq => GlRel2 w1 gs (spotsGl ((e.spots regs).take k) e.rows) ⟨srow, scol, m⟩ (rowCh q) v i wq) (fun _ i _ => m - (intOf i).toNat)
      case atStart => exact ⟨0, Nat.zero_le _, rfl, HXw.out, HBs.out, by simp only [List.take_zero, lineGl, List.append_nil]; exact HOs.out⟩
      case round =>
        obtain ⟨j, hj, rfl, hxq, hbsq, hownq⟩ := hrel
        dsimp only at hownq
        have HXq := Lib.hid hxq
        have HOq := Lib.hid hownq
        have HBsq : Hid (Blk wr gs 119 #[.int .i64 srow, .int .i64 scol, .int .i64 m]) := hbsq
        have HBeq := Lib.hid (HB1.out.ext hxq)
        have HXqw := Lib.hid (HX1.out.trans hxq)
        clear hxq hownq hbsq
        have d2 := HBsq.out.cell 2
        simp at d2
        by_cases hjm : j < m
        · obtain ⟨ch, hch⟩ : ∃ ch, (rowCh q)[j]? = some ch := ⟨_, List.getElem?_eq_getElem (by rw [HMl.out]; exact hjm)⟩
          have HV := Lib.hid (line_at (row := srow) (col := scol) (rowCh q) 0 j ch hch)
          obtain ⟨rb, roff, q', hA', hq', A', n', c', hcell, hnc, hc40, hruns⟩ := (HA.out.ext HXqw.out).at_ (i := k) hlt
          obtain rfl : q' = q := by have := HQ.out; rw [hq'] at this; exact Option.some.inj this
          subst hA'
          simp only [Nat.mul_one] at hcell
          have HAt := Lib.hid (fun w' (hx : Ext wr w') => R9At_any A' n' c' q' j ch w' (HEn.out.ext (HXqw.out.trans hx)) (hruns.ext hx) (by have := HBq.out.1; omega) (by omega) HL0.out (by omega) hch)
          have hpl : (spotsGl ((e.spots regs).take k) e.rows ++ lineGl srow scol 0 ((rowCh q').take j)).length ≤ 480 := by
            have h1 := (HPk.out j).length_le
            have h2 := HLe.out
            omega
          have hpl2 := hpl
          rw [List.length_append] at hpl2
          have d0 := HBsq.out.cell 0
          have d1 := HBsq.out.cell 1
          have e5 := HBeq.out.cell 5
          have e6 := HBeq.out.cell 6
          simp at d0 d1 e5 e6
          clear hch hq' hruns
          go_wp2_with fail
          refine (HAt.out _ (Ext.refl _)).mono ?_
          rintro en w3 ⟨rfl, hx3⟩
          unfold Ch.style
          have HOx := Lib.hid ((own_ext HOq.out hx3).alloc (.cells #[.int .u8 ch.color, .bool ch.italic, .bool ch.under] 56))
          have HXx3 := Lib.hid ((HXq.out.trans hx3).alloc (.cells #[.int .u8 ch.color, .bool ch.italic, .bool ch.under] 56))
          have HBs3 := Lib.hid ((HBsq.out.ext hx3).alloc (.cells #[.int .u8 ch.color, .bool ch.italic, .bool ch.under] 56))
          have HBy3 := Lib.hid (Blk.new w3 56 #[.int .u8 ch.color, .bool ch.italic, .bool ch.under])
          clear d0 d1 e5 e6 hx3 hcell
          by_cases h32 : ch.r = 32
          · have hc32 : (ch.r != 32) = false := by simpa using h32
            have HV2 : Hid (lineGl srow scol 0 ((rowCh q').take (j + 1)) = lineGl srow scol 0 ((rowCh q').take j)) := by show _ = _; rw [HV.out, if_pos h32, List.append_nil]
            clear HV h32
            go_wp2_with fail
            exact ⟨⟨j + 1, by rw [HMl.out]; omega, by go_num, HXx3.out, HBs3.out, by dsimp only; rw [HV2.out]; exact HOx.out⟩, by simp [intOf]; omega⟩
          · have hc32 : (ch.r != 32) = true := by simpa using h32
            have HV2 : Hid (lineGl srow scol 0 ((rowCh q').take (j + 1)) = lineGl srow scol 0 ((rowCh q').take j) ++ [chGl srow (scol + j) ch]) := by show _ = _; rw [HV.out, if_neg h32, Nat.zero_add]
            clear HV h32
            go_upto_region 11 with fail
            clear hc32
            have hszx := HXx3.out.size
            generalize w3.alloc (.cells #[.int .u8 ch.color, .bool ch.italic, .bool ch.under] 56) = W4 at *
            generalize w3.heap.size = gy at *
            have d0 := HBs3.out.cell 0
            have d1 := HBs3.out.cell 1
            have y0 := HBy3.out.cell 0
            have y1 := HBy3.out.cell 1
            have y2 := HBy3.out.cell 2
            simp at d0 d1 y0 y1 y2
            go_wp2_with (at_builtin; refine wpList_append1 rfl (.tmp 49) (.tmp 59) 30 rfl info_gl Tryz.underlying30 rfl (by decide) (HOx.out.alloc _) (by exact rfl) W4.heap.size _ (by exact rfl) (by exact Blk.new' rfl) (by exact rfl) (by simp [Value.oneCell']) (by omega) (by simp [maxLen]; omega) (by simp; omega) ?_; intro v' w5 hown5 hgr)
            refine ⟨⟨j + 1, by rw [HMl.out]; omega, by go_num, (HXx3.out.alloc _).grown hgr (fun q hq => own_lt HOx.out q hq), (HBs3.out.alloc _).grownT hgr (fun q hq => (own_typed (HOx.out.alloc _)) q hq) (by decide), ?_⟩, by simp [intOf]; omega⟩
            dsimp only
            rw [HV2.out, ← List.append_assoc, List.length_append, List.flatMap_append]
            exact hown5
        · have hjm2 : j = m := by have := HMl.out; omega
          subst hjm2
          have HTk : Hid ((rowCh q).take j = rowCh q) := List.take_of_length_le (by rw [HMl.out]; omega)
          go_wp2_with fail
          refine ⟨⟨k + 1, by omega, by go_num, HXq.out, ?_⟩, by simp [intOf]; omega⟩
          rw [HT.out]
          have := HOq.out
          rw [HTk.out] at this
          exact this
    · have hkn : k = sn := by omega
      subst hkn
      have HTa : Hid (spotsGl ((e.spots regs).take k) e.rows = e.gls regs) := by show _ = _; rw [HGe.out, List.take_of_length_le (by rw [HSl.out, HLn.out]; omega)]
      have hO := HO.out
      rw [HTa.out] at hO
      obtain ⟨A1, c1, rfl, hc, _, hsl, hfr⟩ := own_sl (f := Gl.vals) (size := 6) (fun _ => rfl) rfl hO
      have HSl2 : Hid (GlsAt wr A1 (e.gls regs).length (e.gls regs)) := hsl
      have HXf := Lib.hid (HX1.out.trans HXx.out)
      have HFr : Hid (∀ ad, A1 = some ad → w.heap.size ≤ ad.block ∧ Typed wr 58 ad.block) := fun ad h => ⟨Nat.le_trans HX1.out.size (hfr ad h), own_typed hO _ (by rw [h]; rfl)⟩
      clear hO hsl hfr HO HXx
      go_wp2_with fail
      go_ret
      exact ⟨A1, c1, rfl, HSl2.out, hc, HXf.out, HFr.out⟩
end Go.Proofs.YtajbhfmdmajpmaaGreatDoor

/-! Ew -/
namespace Go.Proofs.YtajbhfmdmajpmaaGreatDoor
set_option linter.unusedVariables false
set_option linter.unusedSimpArgs false
open Go.RowKit
/-- a world that is greater than W -/
structure EW (W : World) where
  w : World
  ext : Ext W w
instance ewInh (W : World) : Nonempty (EW W) := ⟨⟨W, Ext.refl W⟩⟩
theorem EW.calls {P : Program} {W : World} {f : FuncId} {args : Array Value} {v : Value} (x : EW W) (h : Calls P f args x.w fun e w' => e = .returned v ∧ Ext x.w w') :
    Calls P f args x.w fun e w'' => e = .returned v ∧ ∃ y : EW W, w'' = y.w :=
  h.mono fun _ w' ⟨he, hx⟩ => ⟨he, ⟨w', x.ext.trans hx⟩, rfl⟩
theorem EW.cell {W : World} {p : Addr} {u : Value} (h : W.cell? p = some u) (x : EW W) : x.w.cell? p = some u := x.ext.cell h
theorem EW.cells {W : World} {g : Nat} (hg : g < W.heap.size) (x : EW W) (o : Nat) : x.w.cell? ⟨g, o, none⟩ = W.cell? ⟨g, o, none⟩ := x.ext.cells _ hg
theorem wp_region_ew {P : Program} {id : Nat} {Q : Exit → Act → World → Prop} {a : Act} {w : World} {l : List Oper} (W : World) (hW : Ext W w) (hm : P.follows .mixedOrders = true) (hB : Region.lexB .any l.toArray = true)
    (h : wpQuiet P l.toArray (fun w' => ∃ x : EW W, w' = x.w) (fun a' => ∀ w', (∃ x : EW W, w' = x.w) → Q .normal a' w') l a) : (Code.region id l.toArray true).wp P Q a w :=
  wp_region_quiet (C := fun w' => ∃ x : EW W, w' = x.w) hm hB ⟨⟨{ w with drawn := w.drawn + 1 }, hW.drew⟩, rfl⟩ (by simpa using h)
end Go.Proofs.YtajbhfmdmajpmaaGreatDoor

/-! GlC -/
namespace Go.Proofs.YtajbhfmdmajpmaaGreatDoor
set_option linter.unusedVariables false
set_option linter.unusedSimpArgs false
open Go.RowKit
set_option maxHeartbeats 400000 in
theorem Cell_any (g : Gl) (w : World) (h : 0 ≤ g.row ∧ g.row < 15 ∧ 0 ≤ g.col ∧ g.col < 32) :
    Calls Tryz.prog 41 #[.agg #[.int .i64 g.row, .int .i64 g.col, .int .i32 g.ch, .int .u8 g.color, .bool g.italic, .bool g.under]] w fun en w' => en = .returned (.int .i64 g.cell) ∧ Ext w w' := by
  obtain ⟨h1, h2, h3, h4⟩ := h
  have HX := Lib.hid ((Ext.refl w).alloc (.cells #[.int .i64 g.row, .int .i64 g.col, .int .i32 g.ch, .int .u8 g.color, .bool g.italic, .bool g.under] 58))
  have HC : Hid (g.row * 32 + g.col = g.cell) := rfl
  go_enter Tryz.func41, Tryz.ntmps41
  go_wp2_with fail
  go_ret
  exact ⟨ret_int HC.out, HX.out⟩
/-- the character ahead of the k-th -/
def prevG (l : List Gl) (k : Nat) : Option Gl := if k = 0 then none else l[k - 1]?
def inG (g : Gl) : Prop := 0 ≤ g.row ∧ g.row < 15 ∧ 0 ≤ g.col ∧ g.col < 32
def GlC (w : World) (n : Nat) (l : List Gl) (i : Value) (wr : World) : Prop :=
  ∃ k : Nat, k ≤ n ∧ i = .int .i64 k ∧ Ext w wr ∧ glsLoop none l = glsLoop (prevG l k) (l.drop k) ∧ (∀ p, prevG l k = some p → inG p)
theorem prev_succ {l : List Gl} {k : Nat} {g : Gl} (h : l[k]? = some g) : prevG l (k + 1) = some g := by
  unfold prevG; rw [if_neg (by omega), Nat.add_sub_cancel]; exact h
theorem gls_1 {l : List Gl} {k : Nat} {g : Gl} {E : Int} {p : Option Gl} (h : l[k]? = some g) (hp : E = glsLoop p (l.drop k)) (h1 : g.row < 0 ∨ 15 ≤ g.row ∨ g.col < 0 ∨ 32 ≤ g.col) : E = 2 := by
  rw [hp, drop_at l k g h]; unfold glsLoop; rw [if_pos h1]
theorem gls_2 {l : List Gl} {k : Nat} {g : Gl} {E : Int} {p : Option Gl} (h : l[k]? = some g) (hp : E = glsLoop p (l.drop k)) (h1 : ¬ (g.row < 0 ∨ 15 ≤ g.row ∨ g.col < 0 ∨ 32 ≤ g.col)) (h2 : g.ch = 32 ∨ idx g.ch < 0) : E = 10 := by
  rw [hp, drop_at l k g h]; unfold glsLoop; rw [if_neg h1, if_pos h2]
theorem gls_3 {l : List Gl} {k : Nat} {g : Gl} {E : Int} {p : Option Gl} (h : l[k]? = some g) (hp : E = glsLoop p (l.drop k)) (h1 : ¬ (g.row < 0 ∨ 15 ≤ g.row ∨ g.col < 0 ∨ 32 ≤ g.col)) (h2 : ¬ (g.ch = 32 ∨ idx g.ch < 0)) (h3 : 6 < g.color) : E = 12 := by
  rw [hp, drop_at l k g h]; unfold glsLoop; rw [if_neg h1, if_neg h2, if_pos h3]
theorem gls_4 {l : List Gl} {k : Nat} {g q : Gl} {E : Int} (h : l[k]? = some g) {p : Option Gl} (hq : p = some q) (hp : E = glsLoop p (l.drop k)) (h1 : ¬ (g.row < 0 ∨ 15 ≤ g.row ∨ g.col < 0 ∨ 32 ≤ g.col)) (h2 : ¬ (g.ch = 32 ∨ idx g.ch < 0)) (h3 : ¬ 6 < g.color) (h4 : g.cell ≤ q.cell) : E = 8 := by
  rw [hp, drop_at l k g h]; unfold glsLoop; rw [if_neg h1, if_neg h2, if_neg h3, hq, if_pos (by simpa using h4)]
theorem gls_5 {l : List Gl} {k : Nat} {g : Gl} {E : Int} (h : l[k]? = some g) {p : Option Gl} (hp : E = glsLoop p (l.drop k)) (h1 : ¬ (g.row < 0 ∨ 15 ≤ g.row ∨ g.col < 0 ∨ 32 ≤ g.col)) (h2 : ¬ (g.ch = 32 ∨ idx g.ch < 0)) (h3 : ¬ 6 < g.color) (h4 : ∀ q, p = some q → ¬ g.cell ≤ q.cell) : E = glsLoop (prevG l (k + 1)) (l.drop (k + 1)) := by
  rw [hp, drop_at l k g h, glsLoop, if_neg h1, if_neg h2, if_neg h3, if_neg (by
    cases p with
    | none => simp
    | some q => have := h4 q rfl; simpa using this), prev_succ h]
theorem prev_at {w : World} {A : Option Addr} {n : Nat} {l : List Gl} (h : GlsAt w A n l) {k : Nat} (h0 : 0 < k) (hk : k ≤ n) : ∃ b off q, A = some ⟨b, off, none⟩ ∧ prevG l k = some q ∧ Cells Gl.vals w b (off + (k - 1) * 6) q := by
  obtain ⟨b, off, q, hA, hq, hC⟩ := h.at_ (i := k - 1) (by omega)
  exact ⟨b, off, q, hA, by unfold prevG; rw [if_neg (by omega)]; exact hq, hC⟩
theorem glsErr_many {l : List Gl} (h : 480 < l.length) : glsErr l = 9 := by unfold glsErr; rw [if_pos h]
theorem glsErr_few {l : List Gl} (h : ¬ 480 < l.length) : glsErr l = glsLoop none l := by unfold glsErr; rw [if_neg h]
set_option maxRecDepth 100000 in
set_option maxHeartbeats 8000000 in
theorem GCheck_any (A : Option Addr) (n c : Nat) (l : List Gl) (w : World) (hl : GlsAt w A n l) (hn : n ≤ 1000000) :
    Calls Tryz.prog 28 #[.slice A n c] w fun en w' => en = .returned (.int .i64 (glsErr l)) ∧ Ext w w' := by
  have HL := Lib.hid hl
  have HLn := Lib.hid hl.len
  by_cases h480 : 480 < n
  · have HE := Lib.hid (glsErr_many (l := l) (by rw [HLn.out]; exact h480))
    have h' : (480 : Int) < (n : Int) := by omega
    clear h480 hl
    go_enter Tryz.func28, Tryz.ntmps28
    go_wp2_with fail
    go_ret
    exact ⟨ret_int HE.out.symm, Ext.refl w⟩
  have HE := Lib.hid (glsErr_few (l := l) (by rw [HLn.out]; exact h480))
  have h' : ¬ (480 : Int) < (n : Int) := by omega
  clear hl
  go_enter Tryz.func28, Tryz.ntmps28
  go_wp2_with fail
  clear h'
  go_loopw [10] (fun i wr => GlC w n l i wr) (fun i _ => n - (intOf i).toNat)
  case atStart => exact ⟨0, Nat.zero_le _, rfl, Ext.refl _, rfl, fun p hp => by simp [prevG] at hp⟩
  case round =>
    obtain ⟨k, hk, rfl, hx, hp, hin⟩ := hrel
    have HP := Lib.hid hp
    have HIn := Lib.hid hin
    have HX := Lib.hid hx
    clear hp hin hx
    by_cases hlt : k < n
    case neg =>
      have hkn : k = n := by omega
      subst hkn
      have HZ : Hid (glsErr l = 0) := by show _ = _; rw [HE.out, HP.out, List.drop_eq_nil_of_le (by rw [HLn.out]; omega)]; rfl
      go_wp2_with fail
      go_ret
      exact ⟨ret_int HZ.out.symm, HX.out⟩
    obtain ⟨b, off, g, rfl, hg, c0, c1, c2, c3, c4, c5⟩ := (HL.out.ext HX.out).at6 hlt
    have HG := Lib.hid hg
    have HB := Lib.hid (Blk.new wr 58 #[.int .i64 g.row, .int .i64 g.col, .int .i32 g.ch, .int .u8 g.color, .bool g.italic, .bool g.under])
    have HX1 := Lib.hid (HX.out.alloc (.cells #[.int .i64 g.row, .int .i64 g.col, .int .i32 g.ch, .int .u8 g.color, .bool g.italic, .bool g.under] 58))
    have H1 := Lib.hid (@gls_1 l k g _ _ hg HP.out)
    have H2 := Lib.hid (@gls_2 l k g _ _ hg HP.out)
    have H3 := Lib.hid (@gls_3 l k g _ _ hg HP.out)
    have H4 := Lib.hid (fun q hq => @gls_4 l k g q _ hg _ hq HP.out)
    have H5 := Lib.hid (@gls_5 l k g _ hg _ HP.out)
    have HNx := Lib.hid (prev_succ hg)
    clear hg
    by_cases r1 : g.row < 0
    · go_wp2_with fail
      go_ret
      exact ⟨ret_int (HE.out.trans (H1.out (.inl r1))).symm, HX1.out⟩
    by_cases r2 : 15 ≤ g.row
    · go_wp2_with fail
      go_ret
      exact ⟨ret_int (HE.out.trans (H1.out (.inr (.inl r2)))).symm, HX1.out⟩
    by_cases r3 : g.col < 0
    · go_wp2_with fail
      go_ret
      exact ⟨ret_int (HE.out.trans (H1.out (.inr (.inr (.inl r3))))).symm, HX1.out⟩
    by_cases r4 : 32 ≤ g.col
    · go_wp2_with fail
      go_ret
      exact ⟨ret_int (HE.out.trans (H1.out (.inr (.inr (.inr r4))))).symm, HX1.out⟩
    have HR : Hid (¬ (g.row < 0 ∨ 15 ≤ g.row ∨ g.col < 0 ∨ 32 ≤ g.col)) := by show ¬ _; omega
    by_cases h32 : g.ch = 32
    · have hc : (g.ch == 32) = true := by simpa using h32
      have HD := Lib.hid (HE.out.trans (H2.out HR.out (.inl h32)))
      clear h32
      go_wp2_with fail
      go_ret
      exact ⟨ret_int HD.out.symm, HX1.out⟩
    have hc : (g.ch == 32) = false := by simpa using h32
    have HN32 := Lib.hid h32
    clear h32
    have HIx := Lib.hid (fun w' => Index_any g.ch w')
    by_cases hneg : idx g.ch < 0
    · have HD := Lib.hid (HE.out.trans (H2.out HR.out (.inr hneg)))
      go_wp2_with fail
      refine (HIx.out _).mono ?_
      rintro en w2 ⟨rfl, hx2⟩
      have HX2 := Lib.hid (HX1.out.trans hx2)
      clear hx2
      go_wp2_with fail
      go_ret
      exact ⟨ret_int HD.out.symm, HX2.out⟩
    have HR2 : Hid (¬ (g.ch = 32 ∨ idx g.ch < 0)) := fun h => h.elim HN32.out hneg
    go_wp2_with fail
    refine (HIx.out _).mono ?_
    rintro en w2 ⟨rfl, hx2⟩
    have HX2 := Lib.hid (HX1.out.trans hx2)
    have HB2 := Lib.hid (HB.out.ext hx2)
    clear hx2 c0 c1 c2 c3 c4 c5 hc HX1 HB
    have b3 := HB2.out.cell 3
    have b4 := HB2.out.cell 4
    have b5 := HB2.out.cell 5
    simp at b3 b4 b5
    go_wp2_with fail
    clear hneg
    refine (SValid_any g.color g.italic g.under _).mono ?_
    rintro en w3 ⟨rfl, hx3⟩
    have HX3 := Lib.hid (HX2.out.trans hx3)
    have HB3 := Lib.hid (HB2.out.ext hx3)
    clear hx3 b3 b4 b5 HX2 HB2
    by_cases hcol : g.color ≤ 6
    case neg =>
      have hd : decide (g.color ≤ 6) = false := decide_eq_false hcol
      have HD := Lib.hid (HE.out.trans (H3.out HR.out HR2.out (by omega)))
      rw [hd]
      clear hcol
      go_wp2_with fail
      go_ret
      exact ⟨ret_int HD.out.symm, HX3.out⟩
    have hd : decide (g.color ≤ 6) = true := decide_eq_true hcol
    have HR3 : Hid (¬ 6 < g.color) := by show ¬ _; omega
    rw [hd]
    clear hcol hd
    go_wp2_with fail
    by_cases hk0 : k = 0
    · subst hk0
      have HF := Lib.hid (H5.out HR.out HR2.out HR3.out (fun q hq => by simp [prevG] at hq))
      go_wp2_with fail
      refine wp_region_ew w3 (Ext.refl _) (by kernel_rfl) (by kernel_rfl) ?_
      repeat (go_big_quiet_step ((fail)))
      refine wpQuiet_nil ?_
      rintro _ ⟨⟨w4, hx4⟩, rfl⟩
      try dsimp only
      have HX4 := Lib.hid (HX3.out.trans hx4)
      clear hx4
      go_wp2_with fail
      exact ⟨⟨0 + 1, by omega, by go_num, HX4.out, HF.out, fun p hp => by rw [HNx.out] at hp; cases hp; exact ⟨by omega, by omega, by omega, by omega⟩⟩, by simp [intOf]; omega⟩
    obtain ⟨b', off', q, hA', hq, hC⟩ := prev_at (HL.out.ext HX3.out) (by omega) hk
    cases hA'
    obtain ⟨q1, q2, q3, q4⟩ := HIn.out q hq
    have hki : (0 : Int) < (k : Int) := by omega
    have hkp : 0 < k := by omega
    have hk2 : (k : Int) - 1 = ((k - 1 : Nat) : Int) := by omega
    have HC := Lib.hid hC
    have HQ := Lib.hid hq
    clear hC hq
    have f1 := fun (x : EW w3) (o : Nat) => (HB3.out.ext x.ext).cell o
    have p0 := fun (y : EW w3) => y.ext.cell (by simpa using HC.out 0 _ rfl : w3.cell? ⟨b, off + (k - 1) * 6, none⟩ = some (.int .i64 q.row))
    have p1 := fun (y : EW w3) => y.ext.cell (by simpa using HC.out 1 _ rfl : w3.cell? ⟨b, off + (k - 1) * 6 + 1, none⟩ = some (.int .i64 q.col))
    have p2 := fun (y : EW w3) => y.ext.cell (by simpa using HC.out 2 _ rfl : w3.cell? ⟨b, off + (k - 1) * 6 + 2, none⟩ = some (.int .i32 q.ch))
    have p3 := fun (y : EW w3) => y.ext.cell (by simpa using HC.out 3 _ rfl : w3.cell? ⟨b, off + (k - 1) * 6 + 3, none⟩ = some (.int .u8 q.color))
    have p4 := fun (y : EW w3) => y.ext.cell (by simpa using HC.out 4 _ rfl : w3.cell? ⟨b, off + (k - 1) * 6 + 3 + 1, none⟩ = some (.bool q.italic))
    have p5 := fun (y : EW w3) => y.ext.cell (by simpa using HC.out 5 _ rfl : w3.cell? ⟨b, off + (k - 1) * 6 + 3 + 2, none⟩ = some (.bool q.under))
    have HCg := Lib.hid (fun w' => Cell_any g w' ⟨by omega, by omega, by omega, by omega⟩)
    have HCq := Lib.hid (fun w' => Cell_any q w' ⟨q1, q2, q3, q4⟩)
    by_cases hle : g.cell ≤ q.cell
    · have HD := Lib.hid (HE.out.trans (H4.out q HQ.out HR.out HR2.out HR3.out hle))
      go_wp2_with fail
      refine wp_region_ew w3 (Ext.refl _) (by kernel_rfl) (by kernel_rfl) ?_
      repeat (go_big_quiet_step ((first | (go_at_call 41; with_reducible exact EW.calls _ (HCg.out _)) | (go_at_call 41; with_reducible exact EW.calls _ (HCq.out _)))))
      refine wpQuiet_nil ?_
      rintro _ ⟨⟨w4, hx4⟩, rfl⟩
      try dsimp only
      have HX4 := Lib.hid (HX3.out.trans hx4)
      clear hx4
      go_wp2_with fail
      go_ret
      exact ⟨ret_int HD.out.symm, HX4.out⟩
    · have HF := Lib.hid (H5.out HR.out HR2.out HR3.out (fun q' hq' => by rw [HQ.out] at hq'; rw [← Option.some.inj hq']; first | exact hle | omega | (unfold Gl.cell; omega)))
      go_wp2_with fail
      refine wp_region_ew w3 (Ext.refl _) (by kernel_rfl) (by kernel_rfl) ?_
      repeat (go_big_quiet_step ((first | (go_at_call 41; with_reducible exact EW.calls _ (HCg.out _)) | (go_at_call 41; with_reducible exact EW.calls _ (HCq.out _)))))
      refine wpQuiet_nil ?_
      rintro _ ⟨⟨w4, hx4⟩, rfl⟩
      try dsimp only
      have HX4 := Lib.hid (HX3.out.trans hx4)
      clear hx4
      go_wp2_with fail
      exact ⟨⟨k + 1, by omega, by go_num, HX4.out, HF.out, fun p hp => by rw [HNx.out] at hp; cases hp; exact ⟨by omega, by omega, by omega, by omega⟩⟩, by simp [intOf]; omega⟩
set_option maxRecDepth 100000 in
set_option maxHeartbeats 8000000 in
theorem R32Check_any (A : Option Addr) (n c : Nat) (l : List Gl) (w : World) (hl : GlsAt w A n l) (hn : n ≤ 1000000) :
    Calls Tryz.prog 29 #[.slice A n c] w fun en w' => en = .returned (.int .i64 (glsErr l)) ∧ Ext w w' := by
  have HL := Lib.hid hl
  have HLn := Lib.hid hl.len
  by_cases h480 : 480 < n
  · have HE := Lib.hid (glsErr_many (l := l) (by rw [HLn.out]; exact h480))
    have h' : (480 : Int) < (n : Int) := by omega
    clear h480 hl
    go_enter Tryz.func29, Tryz.ntmps29
    go_wp2_with fail
    go_ret
    exact ⟨ret_int HE.out.symm, Ext.refl w⟩
  have HE := Lib.hid (glsErr_few (l := l) (by rw [HLn.out]; exact h480))
  have h' : ¬ (480 : Int) < (n : Int) := by omega
  clear hl
  go_enter Tryz.func29, Tryz.ntmps29
  go_wp2_with fail
  clear h'
  go_loopw [10] (fun i wr => GlC w n l i wr) (fun i _ => n - (intOf i).toNat)
  case atStart => exact ⟨0, Nat.zero_le _, rfl, Ext.refl _, rfl, fun p hp => by simp [prevG] at hp⟩
  case round =>
    obtain ⟨k, hk, rfl, hx, hp, hin⟩ := hrel
    have HP := Lib.hid hp
    have HIn := Lib.hid hin
    have HX := Lib.hid hx
    clear hp hin hx
    by_cases hlt : k < n
    case neg =>
      have hkn : k = n := by omega
      subst hkn
      have HZ : Hid (glsErr l = 0) := by show _ = _; rw [HE.out, HP.out, List.drop_eq_nil_of_le (by rw [HLn.out]; omega)]; rfl
      go_wp2_with fail
      go_ret
      exact ⟨ret_int HZ.out.symm, HX.out⟩
    obtain ⟨b, off, g, rfl, hg, c0, c1, c2, c3, c4, c5⟩ := (HL.out.ext HX.out).at6 hlt
    have HG := Lib.hid hg
    have HB := Lib.hid (Blk.new wr 58 #[.int .i64 g.row, .int .i64 g.col, .int .i32 g.ch, .int .u8 g.color, .bool g.italic, .bool g.under])
    have HX1 := Lib.hid (HX.out.alloc (.cells #[.int .i64 g.row, .int .i64 g.col, .int .i32 g.ch, .int .u8 g.color, .bool g.italic, .bool g.under] 58))
    have H1 := Lib.hid (@gls_1 l k g _ _ hg HP.out)
    have H2 := Lib.hid (@gls_2 l k g _ _ hg HP.out)
    have H3 := Lib.hid (@gls_3 l k g _ _ hg HP.out)
    have H4 := Lib.hid (fun q hq => @gls_4 l k g q _ hg _ hq HP.out)
    have H5 := Lib.hid (@gls_5 l k g _ hg _ HP.out)
    have HNx := Lib.hid (prev_succ hg)
    clear hg
    by_cases r1 : g.row < 0
    · go_wp2_with fail
      go_ret
      exact ⟨ret_int (HE.out.trans (H1.out (.inl r1))).symm, HX1.out⟩
    by_cases r2 : 15 ≤ g.row
    · go_wp2_with fail
      go_ret
      exact ⟨ret_int (HE.out.trans (H1.out (.inr (.inl r2)))).symm, HX1.out⟩
    by_cases r3 : g.col < 0
    · go_wp2_with fail
      go_ret
      exact ⟨ret_int (HE.out.trans (H1.out (.inr (.inr (.inl r3))))).symm, HX1.out⟩
    by_cases r4 : 32 ≤ g.col
    · go_wp2_with fail
      go_ret
      exact ⟨ret_int (HE.out.trans (H1.out (.inr (.inr (.inr r4))))).symm, HX1.out⟩
    have HR : Hid (¬ (g.row < 0 ∨ 15 ≤ g.row ∨ g.col < 0 ∨ 32 ≤ g.col)) := by show ¬ _; omega
    by_cases h32 : g.ch = 32
    · have hc : (g.ch == 32) = true := by simpa using h32
      have HD := Lib.hid (HE.out.trans (H2.out HR.out (.inl h32)))
      clear h32
      go_wp2_with fail
      go_ret
      exact ⟨ret_int HD.out.symm, HX1.out⟩
    have hc : (g.ch == 32) = false := by simpa using h32
    have HN32 := Lib.hid h32
    clear h32
    have HIx := Lib.hid (fun w' => RIndex_any g.ch w')
    by_cases hneg : idx g.ch < 0
    · have HD := Lib.hid (HE.out.trans (H2.out HR.out (.inr hneg)))
      go_wp2_with fail
      refine (HIx.out _).mono ?_
      rintro en w2 ⟨rfl, hx2⟩
      have HX2 := Lib.hid (HX1.out.trans hx2)
      clear hx2
      go_wp2_with fail
      go_ret
      exact ⟨ret_int HD.out.symm, HX2.out⟩
    have HR2 : Hid (¬ (g.ch = 32 ∨ idx g.ch < 0)) := fun h => h.elim HN32.out hneg
    go_wp2_with fail
    refine (HIx.out _).mono ?_
    rintro en w2 ⟨rfl, hx2⟩
    have HX2 := Lib.hid (HX1.out.trans hx2)
    have HB2 := Lib.hid (HB.out.ext hx2)
    clear hx2 c0 c1 c2 c3 c4 c5 hc HX1 HB
    have b3 := HB2.out.cell 3
    have b4 := HB2.out.cell 4
    have b5 := HB2.out.cell 5
    simp at b3 b4 b5
    go_wp2_with fail
    clear hneg
    refine (R9Valid_any g.color g.italic g.under _).mono ?_
    rintro en w3 ⟨rfl, hx3⟩
    have HX3 := Lib.hid (HX2.out.trans hx3)
    have HB3 := Lib.hid (HB2.out.ext hx3)
    clear hx3 b3 b4 b5 HX2 HB2
    by_cases hcol : g.color ≤ 6
    case neg =>
      have hd : decide (g.color ≤ 6) = false := decide_eq_false hcol
      have HD := Lib.hid (HE.out.trans (H3.out HR.out HR2.out (by omega)))
      rw [hd]
      clear hcol
      go_wp2_with fail
      go_ret
      exact ⟨ret_int HD.out.symm, HX3.out⟩
    have hd : decide (g.color ≤ 6) = true := decide_eq_true hcol
    have HR3 : Hid (¬ 6 < g.color) := by show ¬ _; omega
    rw [hd]
    clear hcol hd
    go_wp2_with fail
    by_cases hk0 : k = 0
    · subst hk0
      have HF := Lib.hid (H5.out HR.out HR2.out HR3.out (fun q hq => by simp [prevG] at hq))
      go_wp2_with fail
      refine wp_region_ew w3 (Ext.refl _) (by kernel_rfl) (by kernel_rfl) ?_
      repeat (go_big_quiet_step ((fail)))
      refine wpQuiet_nil ?_
      rintro _ ⟨⟨w4, hx4⟩, rfl⟩
      try dsimp only
      have HX4 := Lib.hid (HX3.out.trans hx4)
      clear hx4
      go_wp2_with fail
      exact ⟨⟨0 + 1, by omega, by go_num, HX4.out, HF.out, fun p hp => by rw [HNx.out] at hp; cases hp; exact ⟨by omega, by omega, by omega, by omega⟩⟩, by simp [intOf]; omega⟩
    obtain ⟨b', off', q, hA', hq, hC⟩ := prev_at (HL.out.ext HX3.out) (by omega) hk
    cases hA'
    obtain ⟨q1, q2, q3, q4⟩ := HIn.out q hq
    have hki : (0 : Int) < (k : Int) := by omega
    have hkp : 0 < k := by omega
    have hk2 : (k : Int) - 1 = ((k - 1 : Nat) : Int) := by omega
    have HC := Lib.hid hC
    have HQ := Lib.hid hq
    clear hC hq
    have f1 := fun (x : EW w3) (o : Nat) => (HB3.out.ext x.ext).cell o
    have p0 := fun (y : EW w3) => y.ext.cell (by simpa using HC.out 0 _ rfl : w3.cell? ⟨b, off + (k - 1) * 6, none⟩ = some (.int .i64 q.row))
    have p1 := fun (y : EW w3) => y.ext.cell (by simpa using HC.out 1 _ rfl : w3.cell? ⟨b, off + (k - 1) * 6 + 1, none⟩ = some (.int .i64 q.col))
    have p2 := fun (y : EW w3) => y.ext.cell (by simpa using HC.out 2 _ rfl : w3.cell? ⟨b, off + (k - 1) * 6 + 2, none⟩ = some (.int .i32 q.ch))
    have p3 := fun (y : EW w3) => y.ext.cell (by simpa using HC.out 3 _ rfl : w3.cell? ⟨b, off + (k - 1) * 6 + 3, none⟩ = some (.int .u8 q.color))
    have p4 := fun (y : EW w3) => y.ext.cell (by simpa using HC.out 4 _ rfl : w3.cell? ⟨b, off + (k - 1) * 6 + 3 + 1, none⟩ = some (.bool q.italic))
    have p5 := fun (y : EW w3) => y.ext.cell (by simpa using HC.out 5 _ rfl : w3.cell? ⟨b, off + (k - 1) * 6 + 3 + 2, none⟩ = some (.bool q.under))
    have u1 := IntWalk.i64_in (g.row * 32) (by omega)
    have u2 := IntWalk.i64_in (g.row * 32 + g.col) (by omega)
    have u3 := IntWalk.i64_in (q.row * 32) (by omega)
    have u4 := IntWalk.i64_in (q.row * 32 + q.col) (by omega)
    by_cases hle : g.row * 32 + g.col ≤ q.row * 32 + q.col
    · have HD := Lib.hid (HE.out.trans (H4.out q HQ.out HR.out HR2.out HR3.out hle))
      go_wp2_with fail
      refine wp_region_ew w3 (Ext.refl _) (by kernel_rfl) (by kernel_rfl) ?_
      repeat (go_big_quiet_step ((fail)))
      refine wpQuiet_nil ?_
      rintro _ ⟨⟨w4, hx4⟩, rfl⟩
      try dsimp only
      have HX4 := Lib.hid (HX3.out.trans hx4)
      clear hx4
      go_wp2_with fail
      go_ret
      exact ⟨ret_int HD.out.symm, HX4.out⟩
    · have HF := Lib.hid (H5.out HR.out HR2.out HR3.out (fun q' hq' => by rw [HQ.out] at hq'; rw [← Option.some.inj hq']; first | exact hle | omega | (unfold Gl.cell; omega)))
      go_wp2_with fail
      refine wp_region_ew w3 (Ext.refl _) (by kernel_rfl) (by kernel_rfl) ?_
      repeat (go_big_quiet_step ((fail)))
      refine wpQuiet_nil ?_
      rintro _ ⟨⟨w4, hx4⟩, rfl⟩
      try dsimp only
      have HX4 := Lib.hid (HX3.out.trans hx4)
      clear hx4
      go_wp2_with fail
      exact ⟨⟨k + 1, by omega, by go_num, HX4.out, HF.out, fun p hp => by rw [HNx.out] at hp; cases hp; exact ⟨by omega, by omega, by omega, by omega⟩⟩, by simp [intOf]; omega⟩
end Go.Proofs.YtajbhfmdmajpmaaGreatDoor

/-! DocRA -/
namespace Go.Proofs.YtajbhfmdmajpmaaGreatDoor
set_option linter.unusedVariables false
set_option linter.unusedSimpArgs false
open Go.RowKit
def findI (l : List Ev) (id : Int) : Int := match findE l id with | none => -1 | some k => (k : Int)
def numI (l : List Ev) (id : Int) : Int := match findE l id with | none => 0 | some k => (k : Int) + 1
theorem findE_here {l : List Ev} {id : Int} {k : Nat} {x : Ev} (h : findE (l.take k) id = none) (hx : l[k]? = some x) (he : x.id = id) : findE l id = some k := by
  obtain ⟨hk, hxk⟩ := List.getElem?_eq_some_iff.1 hx
  unfold findE at h ⊢
  rw [List.findIdx?_eq_some_iff_getElem]
  refine ⟨hk, by rw [hxk]; simpa using he, fun j hj => ?_⟩
  have h2 := List.findIdx?_eq_none_iff.1 h (l[j]'(by omega)) (List.mem_of_getElem? (i := j) (by rw [List.getElem?_take, if_pos hj]; exact List.getElem?_eq_getElem _))
  simpa using h2
theorem findE_on {l : List Ev} {id : Int} {k : Nat} {x : Ev} (h : findE (l.take k) id = none) (hx : l[k]? = some x) (he : x.id ≠ id) : findE (l.take (k + 1)) id = none := by
  rw [take_snoc' l k x hx, findE_snoc, h]
  simp [he]
def FndRel (w1 : World) (n : Nat) (id : Int) (l : List Ev) (i : Value) (wr : World) : Prop := ∃ k : Nat, k ≤ n ∧ i = .int .i64 k ∧ findE (l.take k) id = none ∧ Ext w1 wr
set_option maxRecDepth 100000 in
set_option maxHeartbeats 1000000 in
theorem R12Find_any (d : Doc) (h : DocH) (id : Int) (w : World) (hat : EvsAt w h.ea h.en d.evs) (hn : h.en ≤ 1000000) :
    Calls Tryz.prog 65 #[.agg (d.cells h), .int .i64 id] w fun e w' => e = .returned (.int .i64 (findI d.evs id)) ∧ Ext w w' := by
  have HX := Lib.hid ((Ext.refl w).alloc (.cells (d.cells h) 27))
  have HE := Lib.hid hat
  have HLn := Lib.hid hat.len
  have hb := fun o => (Blk.new w 27 (d.cells h)).cell o
  clear hat
  obtain ⟨ra, rn, rc, ea, n, ec, ca, cn, cc⟩ := h
  unfold Doc.cells at *
  dsimp only at *
  go_enter Tryz.func65, Tryz.ntmps65
  go_wp2_with fail
  clear hb
  go_loopw [10] (fun i wr => FndRel w n id d.evs i wr) (fun i _ => n - (intOf i).toNat)
  case atStart => exact ⟨0, Nat.zero_le _, rfl, rfl, HX.out⟩
  case round =>
    obtain ⟨k, hk, rfl, hF, hx⟩ := hrel
    have HF := Lib.hid hF
    clear hF
    by_cases hlt : k < n
    · obtain ⟨b, off, x, A', n', c', rfl, hxx, -, c0, c1, c2, c3, c4, c5, c6⟩ := (HE.out.ext hx).at_ev hlt
      have HXx := Lib.hid hxx
      clear hxx
      by_cases he : x.id = id
      · have hb : (x.id == id) = true := by simpa using he
        have HV := Lib.hid (findE_here HF.out HXx.out he)
        clear he
        go_wp2_with fail
        go_ret
        exact ⟨ret_int (by unfold findI; rw [HV.out]), hx.alloc _⟩
      · have hb : (x.id == id) = false := by simpa using he
        have HV := Lib.hid (findE_on HF.out HXx.out he)
        clear he
        go_wp2_with fail
        exact ⟨⟨k + 1, by omega, by go_num, HV.out, hx.alloc _⟩, by simp [intOf]; omega⟩
    · have hkn : k = n := by omega
      have HV : Hid (findE d.evs id = none) := by
        show _ = _
        have h1 := HF.out
        rwa [List.take_of_length_le (by rw [HLn.out]; omega)] at h1
      subst hkn
      go_wp2_with fail
      go_ret
      exact ⟨ret_int (by unfold findI; rw [HV.out]), hx⟩
set_option maxHeartbeats 400000 in
theorem R11spanned_any (i o : Int) (w : World) : Calls Tryz.prog 91 #[.agg #[.int .i64 i, .int .i64 o]] w fun e w' => e = .returned (.bool (spansB i o)) ∧ Ext w w' := by
  have HX := Lib.hid ((Ext.refl w).alloc (.cells #[.int .i64 i, .int .i64 o] 44))
  by_cases h1 : 0 ≤ i
  · by_cases h2 : i < o
    · go_enter Tryz.func91, Tryz.ntmps91
      go_wp2_with fail
      go_ret
      refine ⟨ret_bool ?_, HX.out⟩
      unfold spansB
      by_cases h3 : o ≤ 5184000
      · rw [decide_eq_true h3, decide_eq_true ⟨h1, h2, h3⟩]
      · rw [decide_eq_false h3, decide_eq_false (fun h => h3 h.2.2)]
    · go_enter Tryz.func91, Tryz.ntmps91
      go_wp2_with fail
      go_ret
      exact ⟨ret_bool (by unfold spansB; rw [decide_eq_false (by omega)]), HX.out⟩
  · go_enter Tryz.func91, Tryz.ntmps91
    go_wp2_with fail
    go_ret
    exact ⟨ret_bool (by unfold spansB; rw [decide_eq_false (by omega)]), HX.out⟩
end Go.Proofs.YtajbhfmdmajpmaaGreatDoor

/-! AtD -/
namespace Go.Proofs.YtajbhfmdmajpmaaGreatDoor
set_option linter.unusedVariables false
set_option linter.unusedSimpArgs false
open Go.RowKit
/-- an event is seen at a frame -/
def seenB (e : Ev) (fr : Int) : Bool := decide (e.inn ≤ fr) && decide (fr < e.out)
/-- the places of the events that are seen, among the first k -/
def atTo (l : List Ev) (fr : Int) (k : Nat) : List Int := ((List.range k).filter fun i => (l[i]?.map fun e => seenB e fr) == some true).map fun i : Nat => (i : Int)
def atL (l : List Ev) (fr : Int) : List Int := atTo l fr l.length
theorem at_in {l : List Ev} {k : Nat} {x : Ev} {fr : Int} (hx : l[k]? = some x) (h : seenB x fr = true) : atTo l fr (k + 1) = atTo l fr k ++ [(k : Int)] := by
  unfold atTo
  rw [List.range_succ, List.filter_append, List.map_append]
  simp [hx, h]
theorem at_out {l : List Ev} {k : Nat} {x : Ev} {fr : Int} (hx : l[k]? = some x) (h : seenB x fr = false) : atTo l fr (k + 1) = atTo l fr k := by
  unfold atTo
  rw [List.range_succ, List.filter_append, List.map_append]
  simp [hx, h]
theorem at_len (l : List Ev) (fr : Int) (k : Nat) : (atTo l fr k).length ≤ k := by
  unfold atTo
  rw [List.length_map]
  exact Nat.le_trans (List.length_filter_le _ _) (by simp)
def AtPost (l : List Ev) (fr : Int) (w : World) (en : Ending) (w' : World) : Prop :=
  ∃ A c, en = .returned (.slice A (atL l fr).length c) ∧ IntsAt w' A (atL l fr).length (atL l fr) ∧ (atL l fr).length ≤ c ∧ Ext w w'
def AtRel (w : World) (n : Nat) (l : List Ev) (fr : Int) (v i : Value) (wr : World) : Prop :=
  ∃ k : Nat, k ≤ n ∧ i = .int .i64 k ∧ Ext w wr ∧ wr.ownsRow w.heap.size 3 1 v (atTo l fr k).length ((atTo l fr k).flatMap fun x => [Value.int .i64 x])
end Go.Proofs.YtajbhfmdmajpmaaGreatDoor
