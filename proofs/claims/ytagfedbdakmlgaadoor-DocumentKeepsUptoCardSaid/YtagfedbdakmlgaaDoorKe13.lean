/- Laid together: The walk of document.Clone. A row of one's own under the sort: what the sort asks of it, and what lies there behind it. The walks of the reference's documents: Find, number; spanned. The walks of document.Find. The walks of comment.Find and of the reference's. The walks of ratio.known, size, away and Quotient at numbers that are not negative. Frames in another rate, plainly. Drifts and the worst of them, plainly. Documents in another rate, plainly. What an accepted document is, plainly. The walks of the references' rates: Valid, CanDrop, Nominal, Dropped, Day. The walks of timebase.Time, Frame, Convert and of retime.known, Span. Lemmas for the walks of Retime: calls of four arguments, appends in drawn regions, spans in their bounds. -/
import Derived.Test.YtagfedbdakmlgaaDoorKe12
import Derived.Test.YtagfedbdakmlgaaDoorKe06
import Derived.Test.YtagfedbdakmlgaaDoorKe01
import Derived.Test.YtagfedbdakmlgaaDoorKe11
import Derived.Test.YtagfedbdakmlgaaDoorKe08
import Derived.Test.YtagfedbdakmlgaaDoorKe05
import Derived.Test.YtagfedbdakmlgaaDoorKe04
import Derived.Test.YtagfedbdakmlgaaDoorKe07

/-! DocCl -/
namespace Go.Proofs.YtagfedbdakmlgaaDoor
set_option linter.unusedVariables false
set_option linter.unusedSimpArgs false
open Go.RowKit
/-- a document's cells, its three slices given -/
def Doc.cells3 (d : Doc) (r e c : Value) : Array Value := #[.string d.title, .string d.lang, .int .u8 d.rate, .bool d.drop, .int .i64 d.last, r, e, c]
def docZero : Array Value := #[.string ⟨#[]⟩, .string ⟨#[]⟩, .int .u8 0, .bool false, .int .i64 0, .slice none 0 0, .slice none 0 0, .slice none 0 0]
def clCells (d : Doc) (h : DocH) : List Value → Array Value
  | [u0, _, _] => d.cells3 u0 (.slice h.ea h.en h.ec) (.slice h.ca h.cn h.cc)
  | [u0, u1, _, _] => d.cells3 u0 (.slice h.ea h.en h.ec) u1
  | _ => d.cells h
structure ClJ (d : Doc) (h : DocH) (w W0 : World) (us : List Value) (w' : World) : Prop where
  ext : Ext w w'
  blk : Blk w' w.heap.size 39 (clCells d h us)
  zero : Blk w' (w.heap.size + 1) 39 docZero
  regs : ∀ u, us[0]? = some u → ∃ A c, u = .slice A h.rn c ∧ w'.ownsRow w.heap.size 58 7 u h.rn (d.regs.flatMap Reg.vals)
  coms : ∀ u, us[1]? = some u → ∃ A c, u = .slice A h.cn c ∧ w'.ownsRow w.heap.size 31 8 u h.cn (d.coms.flatMap Com.vals)
theorem clCells_2 (d : Doc) (h : DocH) (u0 u1 : Value) : clCells d h [u0, u1] = d.cells h := rfl
theorem ClJ.call0 {d : Doc} {h : DocH} {w W0 w' w2 : World} (j : ClJ d h w W0 [] w') {A : Option Addr} {c : Nat} (hx : Ext w' w2) (ho : w2.ownsRow w'.heap.size 58 7 (.slice A h.rn c) h.rn (d.regs.flatMap Reg.vals)) : ClJ d h w W0 ([] ++ [.slice A h.rn c]) w2 :=
  ⟨j.ext.trans hx, j.blk.ext hx, j.zero.ext hx, fun u hu => by simp at hu; subst hu; exact ⟨A, c, rfl, own_le ho j.ext.size⟩, fun u hu => by simp at hu⟩
theorem ClJ.call1 {d : Doc} {h : DocH} {w W0 w' w2 : World} {u0 : Value} (j : ClJ d h w W0 [u0] w') {A : Option Addr} {c : Nat} (hx : Ext w' w2) (ho : w2.ownsRow w'.heap.size 31 8 (.slice A h.cn c) h.cn (d.coms.flatMap Com.vals)) : ClJ d h w W0 ([u0] ++ [.slice A h.cn c]) w2 :=
  ⟨j.ext.trans hx, j.blk.ext hx, j.zero.ext hx, fun u hu => by obtain ⟨A', c', h1, h2⟩ := j.regs u (by simpa using hu); exact ⟨A', c', h1, own_ext h2 hx⟩, fun u hu => by simp at hu; subst hu; exact ⟨A, c, rfl, own_le ho j.ext.size⟩⟩
theorem ClJ.put {d : Doc} {h : DocH} {w W0 w' : World} {us : List Value} (j : ClJ d h w W0 us w') (v : Value) (hv : us.length = 2 ∨ us.length = 3) : ClJ d h w W0 (us ++ [v]) (putB w' w.heap.size 39 (clCells d h (us ++ [v]))) := by
  refine ⟨j.ext.put (Nat.le_refl _) _ _, j.blk.put _, j.zero.put_other (by omega) _, fun u hu => ?_, fun u hu => ?_⟩
  · obtain ⟨A', c', h1, h2⟩ := j.regs u (by rw [← hu, List.getElem?_append_left (by omega)])
    exact ⟨A', c', h1, own_kb h2 (KB.put j.blk (by decide))⟩
  · obtain ⟨A', c', h1, h2⟩ := j.coms u (by rw [← hu, List.getElem?_append_left (by omega)])
    exact ⟨A', c', h1, own_kb h2 (KB.put j.blk (by decide))⟩
/-- one event is copied -/
structure CeJ (e : Ev) (g k n' : Nat) (w4 : World) (us : List Value) (w' : World) : Prop where
  nil : us = [] → Ext w4 w'
  one : ∀ u0, us = [u0] → ∃ A2 c2, u0 = .agg (e.cells A2 n' c2) ∧ n' ≤ c2 ∧ RowsFresh w' w4.heap.size A2 n' e.rows ∧ Ext w4 w'
  two : ∀ u0 u1, us = [u0, u1] → ∃ A2 c2 w5, u0 = .agg (e.cells A2 n' c2) ∧ n' ≤ c2 ∧ RowsFresh w5 w4.heap.size A2 n' e.rows ∧ Ext w4 w5 ∧ w' = w5.setCells g (k * 7) (e.cells A2 n' c2).toList
structure DClRel (d : Doc) (h : DocH) (w : World) (v0 : Value) (v1 : Value) (ea : Option Addr) (ec : Nat) (i : Value) (wr : World) : Prop where
  ext : Ext w wr
  blk : Blk wr w.heap.size 39 (d.cells3 v0 (.slice ea h.en ec) v1)
  zero : Blk wr (w.heap.size + 1) 39 docZero
  regs : wr.ownsRow w.heap.size 58 7 v0 h.rn (d.regs.flatMap Reg.vals)
  coms : wr.ownsRow w.heap.size 31 8 v1 h.cn (d.coms.flatMap Com.vals)
  more : ∃ (k : Nat) (hs : List EH), k ≤ h.en ∧ i = .int .i64 k ∧ hs.length = h.en ∧ wr.ownsRow w.heap.size 45 7 (.slice ea h.en ec) h.en (hs.flatMap EH.vals) ∧
    ∀ (j : Nat) (x : EH) (e : Ev), hs[j]? = some x → d.evs[j]? = some e → (j < k → EGood wr w.heap.size x e) ∧ (k ≤ j → ∃ A n c, x = EH.of e A n c ∧ EvAt w e A n c)
theorem DClRel.step {d : Doc} {h : DocH} {w wr w4 w5 : World} {v0 v1 : Value} {g ec k n' c2 : Nat} {A2 : Option Addr} {hs : List EH} {e : Ev} (hgw : w.heap.size ≤ g) (h1 : Ext w wr) (h2 : Blk wr w.heap.size 39 (d.cells3 v0 (.slice (some ⟨g, 0, none⟩) h.en ec) v1))
    (h3 : Blk wr (w.heap.size + 1) 39 docZero) (h4 : wr.ownsRow w.heap.size 58 7 v0 h.rn (d.regs.flatMap Reg.vals)) (h5 : wr.ownsRow w.heap.size 31 8 v1 h.cn (d.coms.flatMap Com.vals))
    (hk : k < h.en) (hl : hs.length = h.en) (h6 : wr.ownsRow w.heap.size 45 7 (.slice (some ⟨g, 0, none⟩) h.en ec) h.en (hs.flatMap EH.vals))
    (h7 : ∀ (j : Nat) (x : EH) (e : Ev), hs[j]? = some x → d.evs[j]? = some e → (j < k → EGood wr w.heap.size x e) ∧ (k ≤ j → ∃ A n c, x = EH.of e A n c ∧ EvAt w e A n c))
    (he : d.evs[k]? = some e) (h8 : Ext wr w5) (hw4 : wr.heap.size ≤ w4.heap.size) (hnc : n' ≤ c2) (hn24 : n' * 24 ≤ 140737488355328) (hf : RowsFresh w5 w4.heap.size A2 n' e.rows) :
    DClRel d h w v0 v1 (some ⟨g, 0, none⟩) ec (.int .i64 ((k : Int) + 1)) (w5.setCells g (k * 7) (e.cells A2 n' c2).toList) := by
  have hty : Typed w5 45 g := (own_typed h6 g rfl).ext h8
  have kb : ∀ {T : TypeId}, T ≠ 45 → KB T w5 (w5.setCells g (k * 7) (e.cells A2 n' c2).toList) := fun hne => KB.sets hne _ _ _ hty
  have hB : ∀ {b : Nat} {cs : Array Value}, Blk wr b 39 cs → Blk (w5.setCells g (k * 7) (e.cells A2 n' c2).toList) b 39 cs := fun hb => kb (by decide) _ _ (hb.ext h8)
  refine ⟨ext_sets hgw _ _ _ (h1.trans h8), hB h2, hB h3, own_kb (own_ext h4 h8) (kb (by decide)), own_kb (own_ext h5 h8) (kb (by decide)), k + 1, hs.set k (EH.of e A2 n' c2), by omega, by simp, by simpa using hl, ?_, fun j x y hx hy => ?_⟩
  · rw [← flat_setMany EH.len hs k (EH.of e A2 n' c2) (by omega)]
    exact own_sets _ _ _ _ (own_ext h6 h8)
  · by_cases hkj : k = j
    · subst hkj
      rw [List.getElem?_set_self (by omega)] at hx
      cases hx
      rw [he] at hy
      cases hy
      exact ⟨fun _ => EGood.kb (w := w5) ⟨rfl, hnc, hn24, hf.le (by have := h1.size; omega)⟩ (kb (by decide)) (kb (by decide)), fun hh => by omega⟩
    · rw [List.getElem?_set_ne hkj] at hx
      obtain ⟨a1, a2⟩ := h7 j x y hx hy
      exact ⟨fun hh => ((a1 (by omega)).ext h8).kb (kb (by decide)) (kb (by decide)), fun hh => a2 (by omega)⟩
/-- what a copy of a document comes to -/
def DClPost (d : Doc) (w : World) (en : Ending) (w' : World) : Prop := ∃ h', en = .returned (.agg (d.cells h')) ∧ DocOwn w' w.heap.size d h' ∧ Ext w w'
theorem EH.cells_at {hs : List EH} {n g c L : Nat} {w : World} (h : w.ownsRow L 45 7 (.slice (some ⟨g, 0, none⟩) n c) n (hs.flatMap EH.vals)) {k : Nat} {x : EH} (hx : hs[k]? = some x) (hk : k < n) {j : Nat} (hj : j < 7) : w.cell? ⟨g, k * 7 + j, none⟩ = x.vals[j]? := by
  rw [h.cellAt (k * 7 + j) (by omega), flatMap_at EH.vals 7 EH.len hs k x j hx hj]
theorem size_docI : (Tryd.prog.info? 39).map (·.size) = some 8 := by kernel_rfl
set_option maxRecDepth 100000 in
set_option maxHeartbeats 4000000 in
theorem DClone_any (d : Doc) (h : DocH) (w : World) (hat : DocAt w d h) (hr : h.rn * 56 ≤ 140737488355328) (hen : h.en * 88 ≤ 140737488355328) (hcn : h.cn * 72 ≤ 140737488355328) :
    Calls Tryd.prog 19 #[.agg (d.cells h)] w (DClPost d w) := by
  have HX := Lib.hid (((Ext.refl w).alloc (.cells (d.cells h) 39)).alloc (.cells docZero 39))
  have HB := Lib.hid ((Blk.new w 39 (d.cells h)).alloc (.cells docZero 39))
  have HZ := Lib.hid (Blk.new' (w := w.alloc (.cells (d.cells h) 39)) (g := w.heap.size + 1) (t := 39) (cs := docZero) (by simp))
  have HAt := Lib.hid hat
  have HRl := Lib.hid hat.regs.len
  have HCl := Lib.hid hat.coms.len
  have HEl := Lib.hid hat.evs.len
  clear hat
  unfold Doc.cells docZero at HX HB HZ
  unfold Doc.cells
  go_enter Tryd.func19, Tryd.ntmps19
  go_wp2_with fail
  refine wp_region_links [some 5, some 6, some 7, some 8, some 9, some 10, some 11, none, some 12, none] [[], [0], [1], [], [3], [4, 2], [0, 1, 2, 3, 4], [6, 2, 5, 0, 1, 2, 3, 4], [0, 1, 2, 3, 4, 5, 6, 7], [8, 5, 7, 0, 1, 2, 3, 4, 5, 6, 7]] [2, 5, 7, 9] [.pointer (some ⟨w.heap.size, 5, none⟩), .slice h.ra h.rn h.rc, undef, .pointer (some ⟨w.heap.size, 7, none⟩), .slice h.ca h.cn h.cc, undef, .pointer (some ⟨w.heap.size, 5, none⟩), undef, .pointer (some ⟨w.heap.size, 7, none⟩), undef] (ClJ d h w w) (by kernel_rfl) (by kernel_rfl) (by kernel_rfl) (by kernel_rfl) (by kernel_rfl) (by kernel_rfl) (by kernel_rfl) (by decide) ?_ ?_ ?_ ?_
  · exact ⟨HX.out.drew, HB.out.drew, HZ.out.drew, fun u hu => by simp at hu, fun u hu => by simp at hu⟩
  · intro i o ho hc a w' us K' hJ hF hlim hk
    match i, ho with
    | 0, ho =>
      simp only [List.getElem?_toArray, List.getElem?_cons_zero, List.getElem?_cons_succ, Option.some.injEq] at ho
      subst ho
      have e1 := hF.old 1 (.pointer (some ⟨w.heap.size, 0, none⟩)) rfl rfl
      simp only [Act.eval] at e1
      clear hF hlim hJ
      go_simp
      exact hk
    | 1, ho =>
      simp only [List.getElem?_toArray, List.getElem?_cons_zero, List.getElem?_cons_succ, Option.some.injEq] at ho
      subst ho
      have e5 := hF.pure 0 5 (.pointer (some ⟨w.heap.size, 5, none⟩)) rfl rfl rfl rfl
      have hcl : w'.cell? ⟨w.heap.size, 5, none⟩ = some (.slice h.ra h.rn h.rc) := by
        have hb := hJ.blk
        have hl0 := hlim 0 2 rfl rfl
        match us, hl0, hb with
        | [], _, hb => exact hb.cell 5
        | [_], hl0, hb => first | exact hb.cell 5 | exact absurd hl0 (by simp)
        | _ :: _ :: us, hl0, _ => exact absurd hl0 (by simp)
      have hlim : True := trivial
      simp only [Act.eval] at e5
      clear hF hlim hJ
      go_simp
      exact hk
    | 2, ho => simp at hc
    | 3, ho =>
      simp only [List.getElem?_toArray, List.getElem?_cons_zero, List.getElem?_cons_succ, Option.some.injEq] at ho
      subst ho
      have e1 := hF.old 1 (.pointer (some ⟨w.heap.size, 0, none⟩)) rfl rfl
      simp only [Act.eval] at e1
      clear hF hlim hJ
      go_simp
      exact hk
    | 4, ho =>
      simp only [List.getElem?_toArray, List.getElem?_cons_zero, List.getElem?_cons_succ, Option.some.injEq] at ho
      subst ho
      have e8 := hF.pure 3 8 (.pointer (some ⟨w.heap.size, 7, none⟩)) rfl rfl rfl rfl
      have hcl : w'.cell? ⟨w.heap.size, 7, none⟩ = some (.slice h.ca h.cn h.cc) := by
        have hb := hJ.blk
        have hl0 := hlim 1 5 rfl rfl
        match us, hl0, hb with
        | [], _, hb => exact hb.cell 7
        | [_], hl0, hb => first | exact hb.cell 7 | exact absurd hl0 (by simp)
        | _ :: _ :: us, hl0, _ => exact absurd hl0 (by simp)
      have hlim : True := trivial
      simp only [Act.eval] at e8
      clear hF hlim hJ
      go_simp
      exact hk
    | 5, ho => simp at hc
    | 6, ho =>
      simp only [List.getElem?_toArray, List.getElem?_cons_zero, List.getElem?_cons_succ, Option.some.injEq] at ho
      subst ho
      have e1 := hF.old 1 (.pointer (some ⟨w.heap.size, 0, none⟩)) rfl rfl
      simp only [Act.eval] at e1
      clear hF hlim hJ
      go_simp
      exact hk
    | 7, ho => simp at hc
    | 8, ho =>
      simp only [List.getElem?_toArray, List.getElem?_cons_zero, List.getElem?_cons_succ, Option.some.injEq] at ho
      subst ho
      have e1 := hF.old 1 (.pointer (some ⟨w.heap.size, 0, none⟩)) rfl rfl
      simp only [Act.eval] at e1
      clear hF hlim hJ
      go_simp
      exact hk
    | 9, ho => simp at hc
    | i + 10, ho => simp at ho
  · intro p c' o hp ho a w' us K' hl hJ hF hk
    match p, hp with
    | 0, hp =>
      obtain rfl : 2 = c' := by simpa using hp
      simp only [List.getElem?_toArray, List.getElem?_cons_zero, List.getElem?_cons_succ, Option.some.injEq] at ho
      subst ho
      obtain rfl : us = [] := List.eq_nil_of_length_eq_zero hl
      have e6 := hF.pure 1 6 (.slice h.ra h.rn h.rc) rfl rfl rfl rfl
      refine wp_call1 rfl e6 Tryd.call40 (CloneRegs_any h.ra h.rn h.rc d.regs w' (RegsAt.vals (HAt.out.regs.ext hJ.ext)) hr) ?_
      rintro en w4 ⟨A4, c4, rfl, ho4, hx4⟩
      exact ⟨_, rfl, hk _ _ (hJ.call0 hx4 ho4)⟩
    | 1, hp =>
      obtain rfl : 5 = c' := by simpa using hp
      simp only [List.getElem?_toArray, List.getElem?_cons_zero, List.getElem?_cons_succ, Option.some.injEq] at ho
      subst ho
      obtain ⟨u0, rfl⟩ := list_1 hl
      have e9 := hF.pure 4 9 (.slice h.ca h.cn h.cc) rfl rfl rfl rfl
      refine wp_call1 rfl e9 Tryd.call41 (CloneComs_any h.ca h.cn h.cc d.coms w' (HAt.out.coms.ext hJ.ext) hcn) ?_
      rintro en w4 ⟨A4, c4, rfl, ho4, hx4⟩
      exact ⟨_, rfl, hk _ _ (hJ.call1 hx4 ho4)⟩
    | 2, hp =>
      obtain rfl : 7 = c' := by simpa using hp
      simp only [List.getElem?_toArray, List.getElem?_cons_zero, List.getElem?_cons_succ, Option.some.injEq] at ho
      subst ho
      obtain ⟨u0, u1, rfl⟩ := list_2 hl
      obtain ⟨A9, c9, hu9, _⟩ := hJ.regs u0 rfl
      have e11 := hF.pure 6 11 (.pointer (some ⟨w.heap.size, 5, none⟩)) rfl rfl rfl rfl
      have e7 := hF.link 0 2 7 _ rfl rfl rfl rfl
      subst hu9
      have hput := hJ.put undef (.inl rfl)
      have hb := hJ.blk
      rw [clCells_2] at hb
      have hcl := hb.cell 5
      have hfr := hb.frozen 5
      have hset := setCell_put hb 5 (.slice A9 h.rn c9)
      unfold Doc.cells at hcl hset
      simp at hset
      have HK := Lib.hid (hk undef _ hput)
      unfold clCells Doc.cells3 at HK
      clear hput hb hk hF hJ
      simp only [Act.eval] at e11 e7
      go_simp
      exact HK.out
    | 3, hp =>
      obtain rfl : 9 = c' := by simpa using hp
      simp only [List.getElem?_toArray, List.getElem?_cons_zero, List.getElem?_cons_succ, Option.some.injEq] at ho
      subst ho
      obtain ⟨u0, u1, u2, rfl⟩ := list_3 hl
      obtain ⟨A9, c9, hu9, _⟩ := hJ.coms u1 rfl
      have e12 := hF.pure 8 12 (.pointer (some ⟨w.heap.size, 7, none⟩)) rfl rfl rfl rfl
      have e10 := hF.link 1 5 10 _ rfl rfl rfl rfl
      subst hu9
      have hput := hJ.put undef (.inr rfl)
      have hb := hJ.blk
      unfold clCells at hb
      have hcl := hb.cell 7
      have hfr := hb.frozen 7
      have hset := setCell_put hb 7 (.slice A9 h.cn c9)
      unfold Doc.cells3 at hcl hset
      simp at hset
      have HK := Lib.hid (hk undef _ hput)
      unfold clCells Doc.cells3 at HK
      clear hput hb hk hF hJ
      simp only [Act.eval] at e12 e10
      go_simp
      exact HK.out
    | p + 4, hp => simp at hp
  intro us W1 hl hJ
  obtain ⟨u0, u1, u2, u3, rfl⟩ := list_4 hl
  rename_i hK
  refine hK _ _ ?_
  clear hK
  generalize hL : frameL _ _ _ _ = L
  obtain rfl : L = [(5, .pointer (some ⟨w.heap.size, 5, none⟩)), (6, .slice h.ra h.rn h.rc), (7, u0), (8, .pointer (some ⟨w.heap.size, 7, none⟩)), (9, .slice h.ca h.cn h.cc), (10, u1), (11, .pointer (some ⟨w.heap.size, 5, none⟩)), (12, .pointer (some ⟨w.heap.size, 7, none⟩))] := hL.symm.trans (by kernel_rfl)
  clear hL hl
  simp only [Act.put, List.foldl_cons, List.foldl_nil, List.setIfInBounds_toArray, List.set_cons_zero, List.set_cons_succ]
  obtain ⟨A0, c0, hu0, ho0⟩ := hJ.regs u0 rfl
  obtain ⟨A1, c1, hu1, ho1⟩ := hJ.coms u1 rfl
  subst hu0 hu1
  have hx1 := hJ.ext
  have hb1 : Blk W1 w.heap.size 39 (d.cells3 (.slice A0 h.rn c0) (.slice h.ea h.en h.ec) (.slice A1 h.cn c1)) := hJ.blk
  have hz1 := hJ.zero
  clear hJ
  obtain ⟨hs0, hsl0, hgd0⟩ := evs_heads HAt.out.evs
  have HHs := Lib.hid hsl0
  have HGd := Lib.hid hgd0
  clear hsl0 hgd0
  have HX1 := Lib.hid hx1
  have HB1 := Lib.hid hb1
  have HZ1 := Lib.hid hz1
  have HR1 := Lib.hid ho0
  have HC1 := Lib.hid ho1
  clear hx1 hb1 hz1 ho0 ho1
  have hc1 := fun o => HB1.out.cell o
  unfold Doc.cells3 at hc1
  go_wp2_with fail
  refine (CloneEHs_any h.ea h.en h.ec hs0 _ (Sl.ext (Cells.stays _) HHs.out HX1.out) hen).mono ?_
  rintro en w2 ⟨ea, ec, rfl, hown2, hx2⟩
  have HX2 := Lib.hid (HX1.out.trans hx2)
  have HB2 := Lib.hid (HB1.out.ext hx2)
  have HZ2 := Lib.hid (HZ1.out.ext hx2)
  have HR2 := Lib.hid (own_ext HR1.out hx2)
  have HC2 := Lib.hid (own_ext HC1.out hx2)
  have HO2 := Lib.hid (own_le hown2 HX1.out.size)
  clear hx2 hown2 hc1
  have hc2 := fun o => HB2.out.cell o
  have hf2 := fun o => HB2.out.frozen o
  have hs2 := fun u => setCell_put HB2.out 6 u
  have HB3 := Lib.hid (HB2.out.put (d.cells3 (.slice A0 h.rn c0) (.slice ea h.en ec) (.slice A1 h.cn c1)))
  unfold Doc.cells3 at hc2 hs2
  simp at hs2
  have hc3 := fun o => HB3.out.cell o
  unfold Doc.cells3 at hc3
  go_wp2_with fail
  clear hc2 hf2 hs2 hc3
  go_loopw [20] (fun i wr => DClRel d h w (.slice A0 h.rn c0) (.slice A1 h.cn c1) ea ec i wr) (fun i _ => h.en - (intOf i).toNat)
  case atStart =>
    refine ⟨HX2.out.put (Nat.le_refl _) _ _, HB3.out, HZ2.out.put_other (by omega) _, own_kb HR2.out (KB.put HB2.out (by decide)), own_kb HC2.out (KB.put HB2.out (by decide)), 0, hs0, Nat.zero_le _, rfl, HHs.out.len, own_kb HO2.out (KB.put HB2.out (by decide)), fun j x e hx he => ⟨fun hh => by omega, fun _ => ?_⟩⟩
    have := HGd.out j x e hx he
    exact ⟨_, _, _, this.1, this.2⟩
  case round =>
    obtain ⟨hx, hb, hz, hor, hoc, k, hs, hk, rfl, hsl, hoe, hall⟩ := hrel
    have HXr := Lib.hid hx
    have HBr := Lib.hid hb
    have HZr := Lib.hid hz
    have HRr := Lib.hid hor
    have HCr := Lib.hid hoc
    have HOr := Lib.hid hoe
    have HAl := Lib.hid hall
    have HSl := Lib.hid hsl
    clear hx hb hz hor hoc hsl hoe hall
    have hcr := fun o => HBr.out.cell o
    unfold Doc.cells3 at hcr
    by_cases hlt : k < h.en
    · obtain ⟨g, cp, hv, hgb, hglt⟩ := own_form HOr.out (by omega)
      have hA1 : ea = some ⟨g, 0, none⟩ := by injection hv
      subst hA1
      obtain ⟨x, hxx⟩ : ∃ x, hs[k]? = some x := ⟨_, List.getElem?_eq_getElem (by rw [HSl.out]; exact hlt)⟩
      obtain ⟨e, hee⟩ : ∃ e, d.evs[k]? = some e := ⟨_, List.getElem?_eq_getElem (by rw [HEl.out]; exact hlt)⟩
      obtain ⟨A', n', c', rfl, hev⟩ := (HAl.out k x e hxx hee).2 (Nat.le_refl _)
      have HCk := Lib.hid (fun (j : Nat) (hj : j < 7) => EH.cells_at HOr.out hxx hlt (j := j) hj)
      have HEe := Lib.hid hee
      have HEv := Lib.hid hev
      have hn24 := hev.2.2
      have c0 : wr.cell? ⟨g, k * 7, none⟩ = some (.int .i64 e.id) := by have := HCk.out 0 (by omega); simpa [EH.vals, EH.of] using this
      have c1' : wr.cell? ⟨g, k * 7 + 1, none⟩ = some (.int .i64 e.inn) := HCk.out 1 (by omega)
      have c2' : wr.cell? ⟨g, k * 7 + 2, none⟩ = some (.int .i64 e.out) := HCk.out 2 (by omega)
      have c3' : wr.cell? ⟨g, k * 7 + 3, none⟩ = some (.string e.region) := HCk.out 3 (by omega)
      have c4' : wr.cell? ⟨g, k * 7 + 4, none⟩ = some (.int .u8 e.kind) := HCk.out 4 (by omega)
      have c5' : wr.cell? ⟨g, k * 7 + 5, none⟩ = some (.string e.speaker) := HCk.out 5 (by omega)
      have c6' : wr.cell? ⟨g, k * 7 + 6, none⟩ = some (.slice A' n' c') := HCk.out 6 (by omega)
      clear hxx hee hev
      go_wp2_with fail
      clear c0 c1' c2' c3' c4' c5' c6' hcr
      have HB4 := Lib.hid (HBr.out.alloc (.cells #[.int .i64 e.id, .int .i64 e.inn, .int .i64 e.out, .string e.region, .int .u8 e.kind, .string e.speaker, .slice A' n' c'] 45))
      have HE4 := Lib.hid (Blk.new wr 45 #[.int .i64 e.id, .int .i64 e.inn, .int .i64 e.out, .string e.region, .int .u8 e.kind, .string e.speaker, .slice A' n' c'])
      have HX4 := Lib.hid ((Ext.refl wr).alloc (.cells #[.int .i64 e.id, .int .i64 e.inn, .int .i64 e.out, .string e.region, .int .u8 e.kind, .string e.speaker, .slice A' n' c'] 45))
      have hsz4 := HX4.out.size
      generalize hw4 : wr.alloc (.cells #[.int .i64 e.id, .int .i64 e.inn, .int .i64 e.out, .string e.region, .int .u8 e.kind, .string e.speaker, .slice A' n' c'] 45) = w4 at *
      refine wp_region_links [some 25, some 26, some 27, some 28, some 29, some 30, none] [[], [0], [], [], [3], [1, 2, 0, 1, 2, 3, 4], [5, 4, 4, 0, 1, 2, 3, 4]] [4, 6] [.pointer (some ⟨w.heap.size, 6, none⟩), .slice (some ⟨g, 0, none⟩) h.en ec, .int .i64 (k : Int), .agg #[.int .i64 e.id, .int .i64 e.inn, .int .i64 e.out, .string e.region, .int .u8 e.kind, .string e.speaker, .slice A' n' c'], undef, .pointer (some ⟨g, k * 7, none⟩), undef] (CeJ e g k n' w4) (by kernel_rfl) (by kernel_rfl) (by kernel_rfl) (by kernel_rfl) (by kernel_rfl) (by kernel_rfl) (by kernel_rfl) (by decide) ?_ ?_ ?_ ?_
      · exact ⟨fun _ => (Ext.refl w4).drew, fun u hu => by simp at hu, fun u v hu => by simp at hu⟩
      · intro i o ho hc a w' us K' hJ hF hlim hk
        match i, ho with
        | 0, ho =>
          simp only [List.getElem?_toArray, List.getElem?_cons_zero, List.getElem?_cons_succ, Option.some.injEq] at ho
          subst ho
          have e1 := hF.old 1 (.pointer (some ⟨w.heap.size, 0, none⟩)) rfl rfl
          simp only [Act.eval] at e1
          clear hF hlim hJ
          go_simp
          exact hk
        | 1, ho =>
          simp only [List.getElem?_toArray, List.getElem?_cons_zero, List.getElem?_cons_succ, Option.some.injEq] at ho
          subst ho
          have e25 := hF.pure 0 25 (.pointer (some ⟨w.heap.size, 6, none⟩)) rfl rfl rfl rfl
          have hX6 : ∃ w6, Ext w4 w6 ∧ KB 39 w6 w' := by
            have hl1 := hlim 1 6 rfl rfl
            match us, hl1, hJ with
            | [], _, hJ => exact ⟨w', hJ.nil rfl, KB.refl _⟩
            | [u], _, hJ => obtain ⟨_, _, _, _, _, h4⟩ := hJ.one u rfl; exact ⟨w', h4, KB.refl _⟩
            | _ :: _ :: _, hl1, _ => exact absurd hl1 (by simp)
          obtain ⟨w6, hX6, hK6⟩ := hX6
          have hcl : w'.cell? ⟨w.heap.size, 6, none⟩ = some (.slice (some ⟨g, 0, none⟩) h.en ec) := Blk.cell (hK6 _ _ (HB4.out.ext hX6)) 6
          clear hX6 hK6
          simp only [Act.eval] at e25
          clear hF hlim hJ
          go_simp
          exact hk
        | 2, ho =>
          simp only [List.getElem?_toArray, List.getElem?_cons_zero, List.getElem?_cons_succ, Option.some.injEq] at ho
          subst ho
          have e3 := hF.old 3 (.int .i64 (k : Int)) rfl rfl
          simp only [Act.eval] at e3
          clear hF hlim hJ
          go_simp
          exact hk
        | 3, ho =>
          simp only [List.getElem?_toArray, List.getElem?_cons_zero, List.getElem?_cons_succ, Option.some.injEq] at ho
          subst ho
          have e4 := hF.old 4 (.pointer (some ⟨wr.heap.size, 0, none⟩)) rfl rfl
          have hX6 : Ext w4 w' := by
            have hl0 := hlim 0 4 rfl rfl
            exact hJ.nil (List.eq_nil_of_length_eq_zero (by omega))
          exact wp_loadBk 45 (.tmp 4) rfl _ 45 _ _ e4 (HE4.out.ext hX6) Tryd.underlying45 rfl (by exact size_event) hk
        | 4, ho => simp at hc
        | 5, ho =>
          simp only [List.getElem?_toArray, List.getElem?_cons_zero, List.getElem?_cons_succ, Option.some.injEq] at ho
          subst ho
          have e26 := hF.pure 1 26 (.slice (some ⟨g, 0, none⟩) h.en ec) rfl rfl rfl rfl
          have e27 := hF.pure 2 27 (.int .i64 (k : Int)) rfl rfl rfl rfl
          exact wp_ix_ev rfl e26 e27 hlt (by rw [Nat.zero_add]; exact hk)
        | 6, ho => simp at hc
        | i + 7, ho => simp at ho
      · intro p c' o hp ho a w' us K' hl hJ hF hk
        match p, hp with
        | 0, hp =>
          obtain rfl : 4 = c' := by simpa using hp
          simp only [List.getElem?_toArray, List.getElem?_cons_zero, List.getElem?_cons_succ, Option.some.injEq] at ho
          subst ho
          obtain rfl : us = [] := List.eq_nil_of_length_eq_zero hl
          have e28 := hF.pure 3 28 (.agg #[.int .i64 e.id, .int .i64 e.inn, .int .i64 e.out, .string e.region, .int .u8 e.kind, .string e.speaker, .slice A' n' c']) rfl rfl rfl rfl
          have hX6 := hJ.nil rfl
          refine wp_call1 rfl e28 Tryd.call43 (EClone_any e A' n' c' w' (HEv.out.ext (HXr.out.trans (HX4.out.trans hX6)))) ?_
          rintro en w8 ⟨A8, c8, rfl, hnc8, hrf8, hx8⟩
          exact ⟨_, rfl, hk _ _ ⟨fun h => absurd h (by simp), fun u hu => by simp at hu; subst hu; exact ⟨A8, c8, rfl, hnc8, hrf8.le hX6.size, hX6.trans hx8⟩, fun u v hu => by simp at hu⟩⟩
        | 1, hp =>
          obtain rfl : 6 = c' := by simpa using hp
          simp only [List.getElem?_toArray, List.getElem?_cons_zero, List.getElem?_cons_succ, Option.some.injEq] at ho
          subst ho
          obtain ⟨u0, rfl⟩ := list_1 hl
          obtain ⟨A2, c2, hu9, hnc, hrf, hx9⟩ := hJ.one u0 rfl
          subst hu9
          have e30 := hF.pure 5 30 (.pointer (some ⟨g, k * 7, none⟩)) rfl rfl rfl rfl
          have e29 := hF.link 0 4 29 _ rfl rfl rfl rfl
          refine wp_store_mid 45 (.tmp 30) (.tmp 29) rfl g (k * 7) (e.cells A2 n' c2) e30 e29 (fun j hj => ?_) (by exact size_event) (by simp [Ev.cells, Value.oneCell']) ?_
          · have hO9 := own_ext (own_ext HOr.out HX4.out) hx9
            have hj7 : j < 7 := hj
            have h8 : k * 7 + j < (hs.flatMap EH.vals).length := by rw [hO9.1]; omega
            exact ⟨by rw [hO9.cellAt _ (by omega), List.getElem?_eq_getElem h8]; rfl, hO9.frozenAt _⟩
          · exact hk undef _ ⟨fun h => absurd h (by simp), fun u hu => by simp at hu, fun u v hu => by simp at hu; obtain ⟨rfl, rfl⟩ := hu; exact ⟨A2, c2, w', rfl, hnc, hrf, hx9, rfl⟩⟩
        | p + 2, hp => simp at hp
      intro us W9 hl hJ
      obtain ⟨u0_1, u1_1, rfl⟩ := list_2 hl
      rename_i hK
      refine hK _ _ ?_
      clear hK
      generalize hL : frameL _ _ _ _ = L
      obtain rfl : L = [(25, .pointer (some ⟨w.heap.size, 6, none⟩)), (26, .slice (some ⟨g, 0, none⟩) h.en ec), (27, .int .i64 (k : Int)), (28, .agg #[.int .i64 e.id, .int .i64 e.inn, .int .i64 e.out, .string e.region, .int .u8 e.kind, .string e.speaker, .slice A' n' c']), (29, u0_1), (30, .pointer (some ⟨g, k * 7, none⟩))] := hL.symm.trans (by kernel_rfl)
      clear hL hl
      simp only [Act.put, List.foldl_cons, List.foldl_nil, List.setIfInBounds_toArray, List.set_cons_zero, List.set_cons_succ]
      obtain ⟨A2, c2, w5, rfl, hnc2, hrf2, hx5, rfl⟩ := hJ.two u0_1 u1_1 rfl
      clear hJ
      go_wp2_with fail
      exact ⟨DClRel.step hgb HXr.out HBr.out HZr.out HRr.out HCr.out hlt HSl.out HOr.out HAl.out HEe.out (HX4.out.trans hx5) hsz4 hnc2 hn24 hrf2, by simp [intOf]; omega⟩
    · have hkn : k = h.en := by omega
      subst hkn
      unfold Doc.cells3 at HBr
      unfold docZero at HZr
      clear hcr
      go_wp2_with (first | (refine wpList_loadB rfl 39 (.tmp 1) rfl w.heap.size 39 _ _ (by exact rfl) (by exact HBr.out) Tryd.underlying39 rfl (by exact size_docI) ?_) | (refine wpList_storeB rfl 39 (.tmp 2) (.tmp 32) rfl (w.heap.size + 1) 39 _ _ (by exact rfl) (by exact rfl) (by exact HZr.out) (by exact rfl) (by exact size_docI) (by simp [Value.oneCell']) ?_))
      refine bodyPost_ret (v := .agg (d.cells ⟨A0, h.rn, c0, ea, h.en, ec, A1, h.cn, c1⟩)) ?_ rfl ⟨⟨A0, h.rn, c0, ea, h.en, ec, A1, h.cn, c1⟩, rfl, ?_, ?_⟩
      · exact results_B (P := Tryd.prog) Tryd.results19 (g := w.heap.size + 1) rfl (by exact HZr.out.put _) Tryd.underlying39 rfl size_docI
      · refine DocOwn.put (h := ⟨A0, h.rn, c0, ea, h.en, ec, A1, h.cn, c1⟩) (cs := docZero) ⟨HRr.out, HRl.out, ⟨hs, HOr.out, HSl.out, HEl.out, fun i x e hx he => (HAl.out i x e hx he).1 (by have := (List.getElem?_eq_some_iff.1 hx).1; have := HSl.out; omega)⟩, HCr.out, HCl.out⟩ HZr.out _
      · exact HXr.out.put (by omega) _ _
end Go.Proofs.YtagfedbdakmlgaaDoor

/-! SrtW -/
namespace Go.Proofs.YtagfedbdakmlgaaDoor
set_option linter.unusedVariables false
set_option linter.unusedSimpArgs false
open Go.Shelf Go.RowKit Go.Lib Go.Sort
section
variable {α : Type} [Inhabited α] {enc : α → List Value} {k : Nat}
theorem flatK_list (hk : ∀ x, (enc x).length = k) (d : Array α) : (flatK enc k d).toList = d.toList.flatMap enc := by
  have hl : (d.toList.flatMap enc).length = d.size * k := by rw [flatMap_len enc k hk, Array.length_toList]
  apply List.ext_getElem?
  intro t
  by_cases ht : t < d.size * k
  · have hk0 : 0 < k := by
      cases k with
      | zero => omega
      | succ k => omega
    have hq : t / k < d.size := Nat.div_lt_of_lt_mul (by rwa [Nat.mul_comm])
    have hr : t % k < k := Nat.mod_lt _ hk0
    have h1 := flatMap_at enc k hk d.toList (t / k) d[t / k]! (t % k) (arr_get hq) hr
    rw [Nat.div_add_mod' t k] at h1
    rw [h1, arr_get (by rw [size_flatK]; exact ht), get_flatK enc k d t ht, List.getElem?_eq_getElem (by rw [hk]; exact hr), getElem!_pos _ _ (by rw [hk]; exact hr)]
  · rw [List.getElem?_eq_none (by rw [Array.length_toList, size_flatK]; omega), List.getElem?_eq_none (by omega)]
variable {w W : World} {L g n c : Nat} {T : TypeId} {l : List α}
theorem own_holds (hk : ∀ x, (enc x).length = k) (h : w.ownsRow L T k (.slice (some ⟨g, 0, none⟩) n c) n (l.flatMap enc)) (hl : l.length = n) : HoldsK enc k w g 0 l.toArray := by
  intro j hj
  rw [size_flatK] at hj
  have hj' : j < n * k := by simpa [hl] using hj
  have h1 := h.cellAt j hj'
  have h2 : (flatK enc k l.toArray).toList[j]? = some (flatK enc k l.toArray)[j]! := arr_get (by rw [size_flatK]; exact hj)
  rw [flatK_list hk] at h2
  refine ⟨by rw [Nat.zero_add, h1]; exact h2, ?_⟩
  rcases h.2 with ⟨hv, hn⟩ | ⟨g', cap, cur, hv, hg, hb, -⟩
  · cases hv
  · cases hv
    simp [World.frozen?, hb]
theorem swk_heap {m : Nat} {os : Array Obj} {cur : Array Value} {e : TypeId} {fr : Nat × Nat} (d : Array α) (hb : w.heap[g]? = some (.cells cur e fr)) :
    (sortWorldK enc k w g 0 m d os).heap[g]? = some (.cells (putCells id 0 (flatK enc k d) cur) e fr) := by
  have hg : g < w.heap.size := (Array.getElem?_eq_some_iff.1 hb).1
  unfold sortWorldK
  rw [heap_grow_old _ _ (by rw [size_putRowK]; exact hg)]
  simp [putRowK, putRow, mapBlock, Sort.ahead, Array.getElem?_modify, hb, onCells]
theorem swk_grown (h : SWK enc k w g 0 l.toArray W) : w.grownBy W (some g) := by
  obtain ⟨m, os, rfl⟩ := h
  refine ⟨rfl, rfl, rfl, by unfold sortWorldK; rw [size_grow, size_putRowK]; exact Nat.le_add_right _ _, fun q hq hne => ?_⟩
  unfold sortWorldK
  rw [heap_grow_old _ _ (by rw [size_putRowK]; exact hq)]
  have : g ≠ q := fun e => hne (by rw [e])
  simp [putRowK, putRow, mapBlock, Sort.ahead, Array.getElem?_modify, this]
theorem take_putF (cur : Array Value) (F : Array Value) (h : F.size ≤ cur.size) : (putCells id 0 F cur).toList.take F.size = F.toList := by
  apply List.ext_getElem?
  intro j
  by_cases hj : j < F.size
  · rw [List.getElem?_take_of_lt hj, Array.getElem?_toList]
    simp [putCells, hj, show j < cur.size by omega]
  · rw [List.getElem?_take_eq_none (by omega), List.getElem?_eq_none (by simp; omega)]
/-- behind the sort the same slice owns what the sort has left there -/
theorem swk_own (hk : ∀ x, (enc x).length = k) {xs : List Value} (h : w.ownsRow L T k (.slice (some ⟨g, 0, none⟩) n c) n xs) (hS : SWK enc k w g 0 l.toArray W) (hl : l.length = n) : W.ownsRow L T k (.slice (some ⟨g, 0, none⟩) n c) n (l.flatMap enc) := by
  refine ⟨by rw [flatMap_len enc k hk, hl], ?_⟩
  rcases h.2 with ⟨hv, hn⟩ | ⟨g', cap, cur, hv, hg, hb, hnc, hcm, hcs, ht⟩
  · cases hv
  · cases hv
    obtain ⟨m, os, rfl⟩ := hS
    refine .inr ⟨g, c, _, rfl, hg, swk_heap _ hb, hnc, hcm, by simp [putCells, hcs], ?_⟩
    have h1 := take_putF cur (flatK enc k l.toArray) (by rw [size_flatK]; simp [hl, hcs]; exact Nat.mul_le_mul_right _ hnc)
    rw [flatK_list hk, size_flatK] at h1
    simpa [hl] using h1
end
theorem insS_congr {α : Type} {lt lt' : α → α → Bool} (x : α) : ∀ (l : List α), (∀ y ∈ l, lt x y = lt' x y ∧ lt y x = lt' y x) → Stb.insS lt x l = Stb.insS lt' x l
  | [], _ => rfl
  | y :: l, h => by
    have h1 := h y (by simp)
    unfold Stb.insS
    rw [h1.1, insS_congr x l (fun z hz => h z (by simp [hz]))]
theorem sortS_congr {α : Type} {lt lt' : α → α → Bool} {l : List α} (h : ∀ p q, p ∈ l → q ∈ l → lt p q = lt' p q) : Stb.sortS lt l = Stb.sortS lt' l := by
  have key : ∀ (l acc : List α), (∀ p q, (p ∈ l ∨ p ∈ acc) → (q ∈ l ∨ q ∈ acc) → lt p q = lt' p q) → l.foldl (fun acc x => Stb.insS lt x acc) acc = l.foldl (fun acc x => Stb.insS lt' x acc) acc := by
    intro l
    induction l with
    | nil => intro acc _; rfl
    | cons x l ih =>
      intro acc h
      simp only [List.foldl_cons]
      rw [insS_congr x acc (fun y hy => ⟨h x y (.inl (by simp)) (.inr hy), h y x (.inr hy) (.inl (by simp))⟩)]
      refine ih _ (fun p q hp hq => h p q ?_ ?_)
      · rcases hp with hp | hp
        · exact .inl (by simp [hp])
        · rcases (Stb.insS_mem x acc p).1 hp with rfl | hp
          · exact .inl (by simp)
          · exact .inr hp
      · rcases hq with hq | hq
        · exact .inl (by simp [hq])
        · rcases (Stb.insS_mem x acc q).1 hq with rfl | hq
          · exact .inl (by simp)
          · exact .inr hq
  exact key l [] (fun p q hp hq => h p q (by simpa using hp) (by simpa using hq))
instance : Inhabited EH := ⟨⟨0, 0, 0, ⟨#[]⟩, 0, ⟨#[]⟩, none, 0, 0⟩⟩
def cmpH (x y : EH) : Int := orI (cmpI x.inn y.inn) (cmpI x.id y.id)
def ltH (x y : EH) : Bool := decide (x.inn < y.inn ∨ x.inn = y.inn ∧ x.id < y.id)
theorem ltOf_cmpH (x y : EH) : ltOf cmpH x y = ltH x y := by
  unfold ltOf ltH cmpH orI cmpI
  congr 1
  apply propext
  repeat' split
  all_goals omega
theorem ltOf_H : ltOf cmpH = ltH := by funext x y; exact ltOf_cmpH x y
theorem ltH_sw : Stb.SW ltH := ⟨fun x y h => by unfold ltH at *; simp only [decide_eq_true_eq, decide_eq_false_iff_not] at *; omega, fun x y z h k => by unfold ltH at *; simp only [decide_eq_false_iff_not] at *; omega⟩
theorem lessB_sw : Stb.SW lessB := ⟨fun x y h => by unfold lessB at *; simp only [decide_eq_true_eq, decide_eq_false_iff_not] at *; omega, fun x y z h k => by unfold lessB at *; simp only [decide_eq_false_iff_not] at *; omega⟩
/-- what Sort comes to -/
def srtE (l : List Ev) : List Ev := Stb.sortS lessB l
theorem EvsOwn.sorted {w W : World} {L g n c : Nat} {l : List Ev} {hs hs' : List EH} (h1 : w.ownsRow L 45 7 (.slice (some ⟨g, 0, none⟩) n c) n (hs.flatMap EH.vals)) (h2 : hs.length = n) (h3 : l.length = n) (h4 : ∀ (i : Nat) (h : EH) (e : Ev), hs[i]? = some h → l[i]? = some e → EGood w L h e)
    (hS : SWK EH.vals 7 w g 0 hs'.toArray W) (hh : hs' = Stb.sortS ltH hs) : EvsOwn W L (.slice (some ⟨g, 0, none⟩) n c) n (srtE l) := by
  have hgr := swk_grown hS
  have hty := own_typed h1
  have k1 : KB 61 w W := KB.grown hgr hty (by decide)
  have k2 : KB 66 w W := KB.grown hgr hty (by decide)
  have hl' : hs'.length = n := by rw [hh, Stb.sortS_len, h2]
  refine ⟨hs', swk_own EH.len h1 hS hl', hl', by unfold srtE; rw [Stb.sortS_len, h3], fun i x e hx he => ?_⟩
  -- pairs
  have hz1 : (hs.zip l).map Prod.fst = hs := List.map_fst_zip (by omega)
  have hz2 : (hs.zip l).map Prod.snd = l := List.map_snd_zip (by omega)
  have hg : ∀ p ∈ hs.zip l, EGood w L p.1 p.2 := by
    intro p hp
    obtain ⟨j, hj⟩ := List.mem_iff_getElem?.1 hp
    have hj1 : ((hs.zip l).map Prod.fst)[j]? = some p.1 := by rw [List.getElem?_map, hj]; rfl
    have hj2 : ((hs.zip l).map Prod.snd)[j]? = some p.2 := by rw [List.getElem?_map, hj]; rfl
    rw [hz1] at hj1
    rw [hz2] at hj2
    exact h4 j _ _ hj1 hj2
  have hs1 : (Stb.sortS (fun p q : EH × Ev => ltH p.1 q.1) (hs.zip l)).map Prod.fst = hs' := by rw [Stb.sortS_map (lt' := ltH) (fun x y => rfl), hz1, hh]
  have hs2 : Stb.sortS (fun p q : EH × Ev => ltH p.1 q.1) (hs.zip l) = Stb.sortS (fun p q : EH × Ev => lessB p.2 q.2) (hs.zip l) := by
    refine sortS_congr (fun p q hp hq => ?_)
    have e1 := (hg p hp).1
    have e2 := (hg q hq).1
    unfold ltH lessB
    rw [e1, e2]
    rfl
  have hs3 : (Stb.sortS (fun p q : EH × Ev => ltH p.1 q.1) (hs.zip l)).map Prod.snd = srtE l := by rw [hs2, Stb.sortS_map (lt' := lessB) (fun x y => rfl), hz2]; rfl
  rw [← hs1, List.getElem?_map] at hx
  rw [← hs3, List.getElem?_map] at he
  obtain ⟨p, hp, rfl⟩ := Option.map_eq_some_iff.1 hx
  rw [hp] at he
  obtain rfl := Option.some.inj he
  exact (hg p ((Stb.sortS_mem _ _).1 (List.mem_of_getElem? hp))).kb k1 k2
end Go.Proofs.YtagfedbdakmlgaaDoor

/-! DocRA -/
namespace Go.Proofs.YtagfedbdakmlgaaDoor
set_option linter.unusedVariables false
set_option linter.unusedSimpArgs false
open Go.RowKit
def findI (l : List Ev) (id : Int) : Int := match findE l id with | none => -1 | some k => (k : Int)
def numI (l : List Ev) (id : Int) : Int := match findE l id with | none => 0 | some k => (k : Int) + 1
theorem findE_here {l : List Ev} {id : Int} {k : Nat} {x : Ev} (h : findE (l.take k) id = none) (hx : l[k]? = some x) (he : x.id = id) : findE l id = some k := by
  obtain ⟨hk, hxk⟩ := List.getElem?_eq_some_iff.1 hx
  unfold findE at h ⊢
  rw [List.findIdx?_eq_some_iff_getElem]
  refine ⟨hk, by rw [hxk]; simpa using he, fun j hj => ?_⟩
  have h2 := List.findIdx?_eq_none_iff.1 h (l[j]'(by omega)) (List.mem_of_getElem? (i := j) (by rw [List.getElem?_take, if_pos hj]; exact List.getElem?_eq_getElem _))
  simpa using h2
theorem findE_on {l : List Ev} {id : Int} {k : Nat} {x : Ev} (h : findE (l.take k) id = none) (hx : l[k]? = some x) (he : x.id ≠ id) : findE (l.take (k + 1)) id = none := by
  rw [take_snoc' l k x hx, findE_snoc, h]
  simp [he]
def FndRel (w1 : World) (n : Nat) (id : Int) (l : List Ev) (i : Value) (wr : World) : Prop := ∃ k : Nat, k ≤ n ∧ i = .int .i64 k ∧ findE (l.take k) id = none ∧ Ext w1 wr
end Go.Proofs.YtagfedbdakmlgaaDoor

/-! FindD -/
namespace Go.Proofs.YtagfedbdakmlgaaDoor
set_option linter.unusedVariables false
set_option linter.unusedSimpArgs false
open Go.RowKit
set_option maxHeartbeats 400000 in
theorem DFind1_any (x : Ev) (A' : Option Addr) (n' c' : Nat) (g : Nat) (id : Int) (w : World) (hB : Blk w g 2 #[.int .i64 id]) :
    Calls Tryd.prog 51 #[.agg #[.int .i64 x.id, .int .i64 x.inn, .int .i64 x.out, .string x.region, .int .u8 x.kind, .string x.speaker, .slice A' n' c'], .pointer (some ⟨g, 0, none⟩)] w fun e w' => e = .returned (.bool (x.id == id)) ∧ Ext w w' := by
  have HX := Lib.hid ((Ext.refl w).alloc (.cells #[.int .i64 x.id, .int .i64 x.inn, .int .i64 x.out, .string x.region, .int .u8 x.kind, .string x.speaker, .slice A' n' c'] 45))
  have hg : ∀ o, (w.alloc o).cell? ⟨g, 0, none⟩ = some (.int .i64 id) := fun o => (hB.alloc o).cell 0
  have hlt := hB.lt
  clear hB
  go_enter Tryd.func51, Tryd.ntmps51
  go_wp2_with fail
  go_ret
  exact ⟨rfl, HX.out⟩
def DIxRel (w1 : World) (n : Nat) (id : Int) (l : List Ev) (i : Value) (wr : World) : Prop := ∃ k : Nat, k ≤ n ∧ i = .int .i64 k ∧ findE (l.take k) id = none ∧ Ext w1 wr
set_option maxRecDepth 100000 in
set_option maxHeartbeats 1000000 in
theorem DIndex_any (A : Option Addr) (n c : Nat) (l : List Ev) (g : Nat) (id : Int) (w : World) (hl : EvsAt w A n l) (hn : n ≤ 4611686018427387904) (hB : Blk w g 2 #[.int .i64 id]) :
    Calls Tryd.prog 50 #[.slice A n c, .func (.func 51) #[] #[.pointer (some ⟨g, 0, none⟩)]] w fun e w' => e = .returned (.int .i64 (findI l id)) ∧ Ext w w' := by
  have HE := Lib.hid hl
  have HLn := Lib.hid hl.len
  have HBg := Lib.hid hB
  clear hl hB
  go_enter Tryd.func50, Tryd.ntmps50
  go_wp2_with fail
  go_loopw [8] (fun i wr => DIxRel w n id l i wr) (fun i _ => n - (intOf i).toNat)
  case atStart => exact ⟨0, Nat.zero_le _, rfl, rfl, Ext.refl _⟩
  case round =>
    obtain ⟨k, hk, rfl, hF, hx⟩ := hrel
    have HF := Lib.hid hF
    clear hF
    by_cases hlt : k < n
    · obtain ⟨b, off, x, A', n', c', rfl, hxx, -, c0, c1, c2, c3, c4, c5, c6⟩ := (HE.out.ext hx).at_ev hlt
      have HXx := Lib.hid hxx
      have HCl := Lib.hid (DFind1_any x A' n' c' g id wr (HBg.out.ext hx))
      clear hxx
      by_cases he : x.id = id
      · have hb : (x.id == id) = true := by simpa using he
        have HV := Lib.hid (findE_here HF.out HXx.out he)
        rw [hb] at HCl
        clear he hb
        go_wp2_with fail
        refine HCl.out.mono ?_
        rintro en w2 ⟨rfl, hx2⟩
        go_wp2_with fail
        go_ret
        exact ⟨ret_int (by unfold findI; rw [HV.out]), hx.trans hx2⟩
      · have hb : (x.id == id) = false := by simpa using he
        have HV := Lib.hid (findE_on HF.out HXx.out he)
        rw [hb] at HCl
        clear he hb
        go_wp2_with fail
        refine HCl.out.mono ?_
        rintro en w2 ⟨rfl, hx2⟩
        go_wp2_with fail
        exact ⟨⟨k + 1, by omega, by go_num, HV.out, hx.trans hx2⟩, by simp [intOf]; omega⟩
    · have hkn : k = n := by omega
      have HV : Hid (findE l id = none) := by
        show _ = _
        have h1 := HF.out
        rwa [List.take_of_length_le (by rw [HLn.out]; omega)] at h1
      subst hkn
      go_wp2_with fail
      go_ret
      exact ⟨ret_int (by unfold findI; rw [HV.out]), hx⟩
set_option maxHeartbeats 1000000 in
theorem DFind_any (d : Doc) (h : DocH) (id : Int) (w : World) (hat : EvsAt w h.ea h.en d.evs) (hn : h.en ≤ 4611686018427387904) :
    Calls Tryd.prog 23 #[.agg (d.cells h), .int .i64 id] w fun e w' => e = .returned (.int .i64 (findI d.evs id)) ∧ Ext w w' := by
  have HX : Hid (Ext w ((w.alloc (.cells (d.cells h) 39)).alloc (.cells #[.int .i64 id] 2))) := ((Ext.refl w).alloc _).alloc _
  have HI := Lib.hid (fun w' (hx : Ext w w') g hB => DIndex_any h.ea h.en h.ec d.evs g id w' (hat.ext hx) hn hB)
  clear hat
  unfold Doc.cells at *
  go_enter Tryd.func23, Tryd.ntmps23
  go_wp2_with fail
  refine (HI.out _ HX.out (w.heap.size + 1) (Blk.new' (by simp))).mono ?_
  rintro en w2 ⟨rfl, hx2⟩
  go_wp2_with fail
  go_ret
  exact ⟨rfl, HX.out.trans hx2⟩
end Go.Proofs.YtagfedbdakmlgaaDoor

/-! FindC -/
namespace Go.Proofs.YtagfedbdakmlgaaDoor
set_option linter.unusedVariables false
set_option linter.unusedSimpArgs false
open Go.RowKit
def findC (l : List Com) (id : Int) : Option Nat := l.findIdx? fun e => e.id == id
def findCI (l : List Com) (id : Int) : Int := match findC l id with | none => -1 | some k => (k : Int)
theorem findC_snoc (l : List Com) (x : Com) (id : Int) : findC (l ++ [x]) id = match findC l id with | some k => some k | none => if x.id == id then some l.length else none := by
  unfold findC
  rw [List.findIdx?_append]
  cases h : l.findIdx? (fun e => e.id == id) with
  | some k => simp
  | none => simp [List.findIdx?_cons]
theorem findC_here {l : List Com} {id : Int} {k : Nat} {x : Com} (h : findC (l.take k) id = none) (hx : l[k]? = some x) (he : x.id = id) : findC l id = some k := by
  obtain ⟨hk, hxk⟩ := List.getElem?_eq_some_iff.1 hx
  unfold findC at h ⊢
  rw [List.findIdx?_eq_some_iff_getElem]
  refine ⟨hk, by rw [hxk]; simpa using he, fun j hj => ?_⟩
  have h2 := List.findIdx?_eq_none_iff.1 h (l[j]'(by omega)) (List.mem_of_getElem? (i := j) (by rw [List.getElem?_take, if_pos hj]; exact List.getElem?_eq_getElem _))
  simpa using h2
theorem findC_on {l : List Com} {id : Int} {k : Nat} {x : Com} (h : findC (l.take k) id = none) (hx : l[k]? = some x) (he : x.id ≠ id) : findC (l.take (k + 1)) id = none := by
  rw [take_snoc' l k x hx, findC_snoc, h]
  simp [he]
def FndRelC (w1 : World) (n : Nat) (id : Int) (l : List Com) (i : Value) (wr : World) : Prop := ∃ k : Nat, k ≤ n ∧ i = .int .i64 k ∧ findC (l.take k) id = none ∧ Ext w1 wr
def CIxRel (w1 : World) (n : Nat) (id : Int) (l : List Com) (i : Value) (wr : World) : Prop := ∃ k : Nat, k ≤ n ∧ i = .int .i64 k ∧ findC (l.take k) id = none ∧ Ext w1 wr
end Go.Proofs.YtagfedbdakmlgaaDoor

/-! RatioQ -/
namespace Go.Proofs.YtagfedbdakmlgaaDoor
set_option linter.unusedVariables false
set_option linter.unusedSimpArgs false
open Go.RowKit
/-- is a remainder rounded up? (mode 1: down, 2: to the nearest, 3: up) -/
def awayB (r d m : Int) : Bool := if r = 0 then false else if m = 1 then false else if m = 3 then true else decide (d - r ≤ r)
/-- a quotient of numbers that are not negative -/
def quoI (n d m : Int) : Int := if awayB (n % d) d m = true then n / d + 1 else n / d
end Go.Proofs.YtagfedbdakmlgaaDoor

/-! ConvP -/
namespace Go.Proofs.YtagfedbdakmlgaaDoor
set_option linter.unusedVariables false
set_option linter.unusedSimpArgs false
open Go.RowKit
/-- the tick at which a frame begins, and the error -/
def timeT (r f : Int) : Int × Int := if rOk r = false then (0, 3) else if f < 0 ∨ 10378368000 / rTicks r < f then (0, 2) else (f * rTicks r, 0)
/-- the frame of a tick (mode m), and the error -/
def frameT (r t m : Int) : Int × Int := if rOk r = false then (0, 3) else if t < 0 ∨ 10378368000 < t then (0, 2) else if 10378368000 < quoI t (rTicks r) m * rTicks r then (0, 2) else (quoI t (rTicks r) m, 0)
def convT (a b f m : Int) : Int × Int := if rOk a = false ∨ rOk b = false then (0, 3) else if (timeT a f).2 ≠ 0 then (0, (timeT a f).2) else frameT b (timeT a f).1 m
/-- the span that a span becomes, and the error -/
def spanT (a b i o m : Int) : (Int × Int) × Int :=
  if rOk a = false ∨ rOk b = false then ((0, 0), 3) else if ¬ (m = 1 ∨ m = 2) ∨ o ≤ i then ((0, 0), 1) else if i < 0 ∨ 5184000 < o then ((0, 0), 2) else if m = 2 then ((i, o), 0) else
    if (convT a b i 2).2 ≠ 0 then ((0, 0), (convT a b i 2).2) else if (convT a b o 2).2 ≠ 0 then ((0, 0), (convT a b o 2).2) else
      if 5184000 < max (convT a b o 2).1 ((convT a b i 2).1 + 1) then ((0, 0), 2) else (((convT a b i 2).1, max (convT a b o 2).1 ((convT a b i 2).1 + 1)), 0)
end Go.Proofs.YtagfedbdakmlgaaDoor

/-! WorstP -/
namespace Go.Proofs.YtagfedbdakmlgaaDoor
set_option linter.unusedVariables false
set_option linter.unusedSimpArgs false
open Go.RowKit
/-- a drift -/
structure Dri where
  id : Int
  inn : Int
  out : Int
  deriving DecidableEq
def Dri.vals (d : Dri) : List Value := [.int .i64 d.id, .int .i64 d.inn, .int .i64 d.out]
def DrisAt (w : World) (A : Option Addr) (n : Nat) (l : List Dri) : Prop := Sl w 3 (Cells Dri.vals) A n l
theorem DrisAt.ext {w w1 : World} {A : Option Addr} {n : Nat} {l : List Dri} (h : DrisAt w A n l) (k : Ext w w1) : DrisAt w1 A n l := Sl.ext (Cells.stays _) h k
/-- the numbers fit -/
def Dri.Fits (d : Dri) : Prop := (-9223372036854775808 ≤ d.inn ∧ d.inn ≤ 9223372036854775807) ∧ (-9223372036854775808 ≤ d.out ∧ d.out ≤ 9223372036854775807)
/-- the size of a drift -/
def dsz (n : Int) : Int := if n = -9223372036854775808 then 9223372036854775807 else if n < 0 then -n else n
def worstStep (n : Int) (d : Dri) : Int := max (max n (dsz d.inn)) (dsz d.out)
def worst (l : List Dri) : Int := l.foldl worstStep 0
/-- whether the worst is met among these -/
def metB (n : Int) (l : List Dri) : Bool := decide (n = 0) || l.any fun d => decide (dsz d.inn = n) || decide (dsz d.out = n)
/-- the number whose size is taken -/
def dfix (x : Int) : Int := if x = -9223372036854775808 then -9223372036854775807 else x
end Go.Proofs.YtagfedbdakmlgaaDoor

/-! RetP -/
namespace Go.Proofs.YtagfedbdakmlgaaDoor
set_option linter.unusedVariables false
set_option linter.unusedSimpArgs false
open Go.RowKit
/-- the document without anything -/
def Doc.zero : Doc := ⟨⟨#[]⟩, ⟨#[]⟩, 0, false, 0, [], [], []⟩
/-- the span of an event in another rate, and the error -/
def Ev.span (a b m : Int) (x : Ev) : (Int × Int) × Int := spanT a b x.inn x.out m
/-- the first error of the spans -/
def retErr (a b m : Int) : List Ev → Int
  | [] => 0
  | x :: l => if (x.span a b m).2 ≠ 0 then (x.span a b m).2 else retErr a b m l
/-- the event at place k in another rate -/
def retEv (a b m : Int) (k : Nat) (x : Ev) : Ev := ⟨(k : Int) + 1, (x.span a b m).1.1, (x.span a b m).1.2, x.region, x.kind, x.speaker, x.rows⟩
def retDri (a b m : Int) (k : Nat) (x : Ev) : Dri := ⟨(k : Int) + 1, (x.span a b m).1.1 * rTicks b - x.inn * rTicks a, (x.span a b m).1.2 * rTicks b - x.out * rTicks a⟩
def retEvs (a b m : Int) (l : List Ev) : List Ev := l.mapIdx (retEv a b m)
def retDris (a b m : Int) (l : List Ev) : List Dri := l.mapIdx (retDri a b m)
/-- the new number of an event -/
def newId (l : List Ev) (id : Int) : Int := match findE l id with | some k => (k : Int) + 1 | none => 0
/-- the comments that are not lost, numbered behind a number -/
def retComs (evs : List Ev) : Int → List Com → List Com
  | _, [] => []
  | p, c :: l => if c.lost = true then retComs evs p l else ⟨p + 1, newId evs c.ev, c.fr, c.til, c.author, c.text, c.done, c.lost⟩ :: retComs evs (p + 1) l
def liveN (l : List Com) : Nat := (l.filter fun c => !c.lost).length
def Doc.ret (d : Doc) (b : Int) (drop : Bool) (m : Int) : Doc :=
  ⟨d.title, d.lang, b, drop, (d.evs.length : Int) + liveN d.coms, d.regs, retEvs d.rate b m d.evs, retComs d.evs d.evs.length d.coms⟩
/-- the error of a document in another rate -/
def Doc.retE (d : Doc) (b : Int) (drop : Bool) (m : Int) : Int :=
  if d.err ≠ 0 then d.err else if rateOkB b drop = false then 13 else if ¬ (m = 1 ∨ m = 2) then 1 else retErr d.rate b m d.evs
/-- the document, the drifts -/
def Doc.retD (d : Doc) (b : Int) (drop : Bool) (m : Int) : Doc := if d.retE b drop m = 0 then d.ret b drop m else Doc.zero
def Doc.retL (d : Doc) (b : Int) (drop : Bool) (m : Int) : List Dri := if d.retE b drop m = 0 then retDris d.rate b m d.evs else []
end Go.Proofs.YtagfedbdakmlgaaDoor

/-! DocV -/
namespace Go.Proofs.YtagfedbdakmlgaaDoor
set_option linter.unusedVariables false
set_option linter.unusedSimpArgs false
open Go.RowKit
theorem doc_ok {d : Doc} (h : d.err = 0) : d.headErr = 0 ∧ regsErr d.regs = 0 ∧ d.evs.length ≤ 400 ∧ evsLoop d.regs d.last [] d.evs = 0 ∧ d.coms.length ≤ 64 ∧ comsLoop d.last d.evs none d.coms = 0 := by
  unfold Doc.err at h
  split at h
  · rename_i h1; exact absurd h h1
  · rename_i h1
    split at h
    · rename_i h2; exact absurd h h2
    · rename_i h2
      split at h
      · simp at h
      · rename_i h3
        split at h
        · rename_i h4; exact absurd h h4
        · rename_i h4
          split at h
          · simp at h
          · rename_i h5
            exact ⟨by simpa using h1, by simpa using h2, by omega, by simpa using h4, by omega, h⟩
theorem head_ok' {d : Doc} (h : d.headErr = 0) : vld d.title = true ∧ d.title.size ≤ 400 ∧ ¬ (d.lang.toList.isEmpty = false ∧ nameB d.lang = false) ∧ rateOkB d.rate d.drop = true ∧ 0 ≤ d.last ∧ d.last ≤ 1099511627776 := by
  unfold Doc.headErr at h
  split at h
  · simp at h
  · rename_i h1
    split at h
    · simp at h
    · rename_i h2
      split at h
      · simp at h
      · rename_i h3
        split at h
        · simp at h
        · rename_i h4
          split at h
          · simp at h
          · rename_i h5
            exact ⟨by simpa using h1, by omega, h3, by simpa using h4, by omega, by omega⟩
/-- each event behind those ahead of it -/
theorem evs_ok {regs : List Reg} {last : Int} : ∀ {l pre : List Ev}, evsLoop regs last pre l = 0 → ∀ (k : Nat) (x : Ev), l[k]? = some x →
    x.err regs = 0 ∧ x.id ≤ last ∧ ¬ (((pre ++ l.take k).getLast?.map fun p => lessB p x) = some false) ∧ findE (pre ++ l.take k) x.id = none
  | [], pre, _, k, x, hx => by simp at hx
  | y :: l, pre, h, 0, x, hx => by
    simp at hx; subst hx
    rw [evs_cons] at h
    split at h
    · rename_i h1; exact absurd h h1
    · rename_i h1
      have h1' : evErr regs last pre y = 0 := by simpa using h1
      unfold evErr at h1'
      split at h1'
      · rename_i h2; exact absurd h1' h2
      · rename_i h2
        split at h1'
        · simp at h1'
        · rename_i h3
          split at h1'
          · simp at h1'
          · rename_i h4
            split at h1'
            · simp at h1'
            · rename_i h5
              refine ⟨by simpa using h2, by omega, by simpa using h4, ?_⟩
              simp only [List.take_zero, List.append_nil]
              cases hf : findE pre y.id with
              | none => rfl
              | some j => rw [hf] at h5; simp at h5
  | y :: l, pre, h, k + 1, x, hx => by
    rw [evs_cons] at h
    split at h
    · rename_i h1; exact absurd h h1
    · have := evs_ok h k x (by simpa using hx)
      simpa using this
theorem evs_all {regs : List Reg} {last : Int} : ∀ {l pre : List Ev}, (∀ (k : Nat) (x : Ev), l[k]? = some x → evErr regs last (pre ++ l.take k) x = 0) → evsLoop regs last pre l = 0
  | [], pre, _ => rfl
  | y :: l, pre, h => by
    have h0 := h 0 y rfl
    simp at h0
    rw [evs_cons, if_neg (by simpa using h0)]
    refine evs_all fun k x hx => ?_
    have := h (k + 1) x (by simpa using hx)
    simpa using this
end Go.Proofs.YtagfedbdakmlgaaDoor

/-! RateR -/
namespace Go.Proofs.YtagfedbdakmlgaaDoor
set_option linter.unusedVariables false
set_option linter.unusedSimpArgs false
open Go.RowKit
end Go.Proofs.YtagfedbdakmlgaaDoor

/-! ConvW -/
namespace Go.Proofs.YtagfedbdakmlgaaDoor
set_option linter.unusedVariables false
set_option linter.unusedSimpArgs false
open Go.RowKit
def tupI (p : Int × Int) : Value := .tuple #[.int .i64 p.1, .int .i64 p.2]
def tupS (p : (Int × Int) × Int) : Value := .tuple #[.agg #[.int .i64 p.1.1, .int .i64 p.1.2], .int .i64 p.2]
end Go.Proofs.YtagfedbdakmlgaaDoor

/-! RetK -/
namespace Go.Proofs.YtagfedbdakmlgaaDoor
set_option linter.unusedVariables false
set_option linter.unusedSimpArgs false
open Go.RowKit Go.Maps
theorem results_B_tmp2 {P : Program} {fn : Func} {p u v : Tmp} {ty : TypeId} (h : fn.results = #[.cell p ty, .tmp u, .tmp v]) {tmps : Array Value} {w : World} {g : Nat} {t : TypeId} {cs : Array Value} {d : TypeDesc} (hp : tmps.getD p undef = .pointer (some ⟨g, 0, none⟩))
    (hB : Blk w g t cs) (hu : P.underlying ty = some d) (hd : d.isRow = true) (hi : (P.info? ty).map (·.size) = some cs.size) : (results fn tmps).run P w = .ok (.tuple #[.agg cs, tmps.getD u undef, tmps.getD v undef]) w := by
  have h1 := run_loadVarB (P := P) g t ty cs d hB hu hd hi
  simp only [results, h]
  have e : tmps[p]?.getD undef = .pointer (some ⟨g, 0, none⟩) := by simpa using hp
  simp [Sem.run_bind, e, run_asAddr, h1]
def docH0 : DocH := ⟨none, 0, 0, none, 0, 0, none, 0, 0⟩
theorem docZero_cells : Doc.zero.cells docH0 = docZero := rfl
/-- what Retime comes to -/
def RetPost (d : Doc) (b : Int) (drop : Bool) (m : Int) (w : World) (en : Ending) (w' : World) : Prop :=
  ∃ h' A n c, en = .returned (.tuple #[.agg ((d.retD b drop m).cells h'), .slice A n c, .int .i64 (d.retE b drop m)]) ∧ DocAt w' (d.retD b drop m) h' ∧ DrisAt w' A n (d.retL b drop m) ∧ n ≤ c ∧ Ext w w'
section
variable {d : Doc} {b m : Int} {drop : Bool}
end
theorem KM.trans {w w1 w2 : World} (h : KM w w1) (k : KM w1 w2) : KM w w2 := fun b es cl hb => k b es cl (h b es cl hb)
/-- the events while they are turned: those ahead of place k are new -/
def midEvs (a b m : Int) (l : List Ev) (k : Nat) : List Ev := retEvs a b m (l.take k) ++ l.drop k
section
variable {d : Doc} {h hh : DocH} {b m : Int} {oc : Array Value} {B M k : Nat} {w wr w1 : World} {v : Value}
end
end Go.Proofs.YtagfedbdakmlgaaDoor
