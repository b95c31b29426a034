/- Laid together: The walk of document.Clone. What an accepted document is, plainly. The walks of the references' rates: Valid, CanDrop, Nominal, Dropped, Day. The walks of timebase.Time, Frame, Convert and of retime.known, Span. Lemmas for the walks of Retime: calls of four arguments, appends in drawn regions, spans in their bounds. A region that draws its order, walked once in the order of the text, where its calls may make memory: the class of the worlds that are greater than one. The walk of the reference's copy of a document. Documents with a comment more, plainly; the drawn region at the end of such functions. -/
import Derived.Test.YtagfedbdakmlgaaGreatDoorSt09
import Derived.Test.YtagfedbdakmlgaaGreatDoorSt06
import Derived.Test.YtagfedbdakmlgaaGreatDoorSt01
import Derived.Test.YtagfedbdakmlgaaGreatDoorSt07
import Derived.Test.YtagfedbdakmlgaaGreatDoorSt08
import Derived.Test.YtagfedbdakmlgaaGreatDoorSt04

/-! DocCl -/
namespace Go.Proofs.YtagfedbdakmlgaaGreatDoor
set_option linter.unusedVariables false
set_option linter.unusedSimpArgs false
open Go.RowKit
/-- a document's cells, its three slices given -/
def Doc.cells3 (d : Doc) (r e c : Value) : Array Value := #[.string d.title, .string d.lang, .int .u8 d.rate, .bool d.drop, .int .i64 d.last, r, e, c]
def docZero : Array Value := #[.string ⟨#[]⟩, .string ⟨#[]⟩, .int .u8 0, .bool false, .int .i64 0, .slice none 0 0, .slice none 0 0, .slice none 0 0]
def clCells (d : Doc) (h : DocH) : List Value → Array Value
  | [u0, _, _] => d.cells3 u0 (.slice h.ea h.en h.ec) (.slice h.ca h.cn h.cc)
  | [u0, u1, _, _] => d.cells3 u0 (.slice h.ea h.en h.ec) u1
  | _ => d.cells h
structure ClJ (d : Doc) (h : DocH) (w W0 : World) (us : List Value) (w' : World) : Prop where
  ext : Ext w w'
  blk : Blk w' w.heap.size 27 (clCells d h us)
  zero : Blk w' (w.heap.size + 1) 27 docZero
  regs : ∀ u, us[0]? = some u → ∃ A c, u = .slice A h.rn c ∧ w'.ownsRow w.heap.size 94 7 u h.rn (d.regs.flatMap Reg.vals)
  coms : ∀ u, us[1]? = some u → ∃ A c, u = .slice A h.cn c ∧ w'.ownsRow w.heap.size 78 8 u h.cn (d.coms.flatMap Com.vals)
theorem clCells_2 (d : Doc) (h : DocH) (u0 u1 : Value) : clCells d h [u0, u1] = d.cells h := rfl
theorem ClJ.call0 {d : Doc} {h : DocH} {w W0 w' w2 : World} (j : ClJ d h w W0 [] w') {A : Option Addr} {c : Nat} (hx : Ext w' w2) (ho : w2.ownsRow w'.heap.size 94 7 (.slice A h.rn c) h.rn (d.regs.flatMap Reg.vals)) : ClJ d h w W0 ([] ++ [.slice A h.rn c]) w2 :=
  ⟨j.ext.trans hx, j.blk.ext hx, j.zero.ext hx, fun u hu => by simp at hu; subst hu; exact ⟨A, c, rfl, own_le ho j.ext.size⟩, fun u hu => by simp at hu⟩
theorem ClJ.call1 {d : Doc} {h : DocH} {w W0 w' w2 : World} {u0 : Value} (j : ClJ d h w W0 [u0] w') {A : Option Addr} {c : Nat} (hx : Ext w' w2) (ho : w2.ownsRow w'.heap.size 78 8 (.slice A h.cn c) h.cn (d.coms.flatMap Com.vals)) : ClJ d h w W0 ([u0] ++ [.slice A h.cn c]) w2 :=
  ⟨j.ext.trans hx, j.blk.ext hx, j.zero.ext hx, fun u hu => by obtain ⟨A', c', h1, h2⟩ := j.regs u (by simpa using hu); exact ⟨A', c', h1, own_ext h2 hx⟩, fun u hu => by simp at hu; subst hu; exact ⟨A, c, rfl, own_le ho j.ext.size⟩⟩
theorem ClJ.put {d : Doc} {h : DocH} {w W0 w' : World} {us : List Value} (j : ClJ d h w W0 us w') (v : Value) (hv : us.length = 2 ∨ us.length = 3) : ClJ d h w W0 (us ++ [v]) (putB w' w.heap.size 27 (clCells d h (us ++ [v]))) := by
  refine ⟨j.ext.put (Nat.le_refl _) _ _, j.blk.put _, j.zero.put_other (by omega) _, fun u hu => ?_, fun u hu => ?_⟩
  · obtain ⟨A', c', h1, h2⟩ := j.regs u (by rw [← hu, List.getElem?_append_left (by omega)])
    exact ⟨A', c', h1, own_kb h2 (KB.put j.blk (by decide))⟩
  · obtain ⟨A', c', h1, h2⟩ := j.coms u (by rw [← hu, List.getElem?_append_left (by omega)])
    exact ⟨A', c', h1, own_kb h2 (KB.put j.blk (by decide))⟩
/-- one event is copied -/
structure CeJ (e : Ev) (g k n' : Nat) (w4 : World) (us : List Value) (w' : World) : Prop where
  nil : us = [] → Ext w4 w'
  one : ∀ u0, us = [u0] → ∃ A2 c2, u0 = .agg (e.cells A2 n' c2) ∧ n' ≤ c2 ∧ RowsFresh w' w4.heap.size A2 n' e.rows ∧ Ext w4 w'
  two : ∀ u0 u1, us = [u0, u1] → ∃ A2 c2 w5, u0 = .agg (e.cells A2 n' c2) ∧ n' ≤ c2 ∧ RowsFresh w5 w4.heap.size A2 n' e.rows ∧ Ext w4 w5 ∧ w' = w5.setCells g (k * 7) (e.cells A2 n' c2).toList
structure DClRel (d : Doc) (h : DocH) (w : World) (v0 : Value) (v1 : Value) (ea : Option Addr) (ec : Nat) (i : Value) (wr : World) : Prop where
  ext : Ext w wr
  blk : Blk wr w.heap.size 27 (d.cells3 v0 (.slice ea h.en ec) v1)
  zero : Blk wr (w.heap.size + 1) 27 docZero
  regs : wr.ownsRow w.heap.size 94 7 v0 h.rn (d.regs.flatMap Reg.vals)
  coms : wr.ownsRow w.heap.size 78 8 v1 h.cn (d.coms.flatMap Com.vals)
  more : ∃ (k : Nat) (hs : List EH), k ≤ h.en ∧ i = .int .i64 k ∧ hs.length = h.en ∧ wr.ownsRow w.heap.size 66 7 (.slice ea h.en ec) h.en (hs.flatMap EH.vals) ∧
    ∀ (j : Nat) (x : EH) (e : Ev), hs[j]? = some x → d.evs[j]? = some e → (j < k → EGood wr w.heap.size x e) ∧ (k ≤ j → ∃ A n c, x = EH.of e A n c ∧ EvAt w e A n c)
theorem DClRel.step {d : Doc} {h : DocH} {w wr w4 w5 : World} {v0 v1 : Value} {g ec k n' c2 : Nat} {A2 : Option Addr} {hs : List EH} {e : Ev} (hgw : w.heap.size ≤ g) (h1 : Ext w wr) (h2 : Blk wr w.heap.size 27 (d.cells3 v0 (.slice (some ⟨g, 0, none⟩) h.en ec) v1))
    (h3 : Blk wr (w.heap.size + 1) 27 docZero) (h4 : wr.ownsRow w.heap.size 94 7 v0 h.rn (d.regs.flatMap Reg.vals)) (h5 : wr.ownsRow w.heap.size 78 8 v1 h.cn (d.coms.flatMap Com.vals))
    (hk : k < h.en) (hl : hs.length = h.en) (h6 : wr.ownsRow w.heap.size 66 7 (.slice (some ⟨g, 0, none⟩) h.en ec) h.en (hs.flatMap EH.vals))
    (h7 : ∀ (j : Nat) (x : EH) (e : Ev), hs[j]? = some x → d.evs[j]? = some e → (j < k → EGood wr w.heap.size x e) ∧ (k ≤ j → ∃ A n c, x = EH.of e A n c ∧ EvAt w e A n c))
    (he : d.evs[k]? = some e) (h8 : Ext wr w5) (hw4 : wr.heap.size ≤ w4.heap.size) (hnc : n' ≤ c2) (hn24 : n' * 24 ≤ 140737488355328) (hf : RowsFresh w5 w4.heap.size A2 n' e.rows) :
    DClRel d h w v0 v1 (some ⟨g, 0, none⟩) ec (.int .i64 ((k : Int) + 1)) (w5.setCells g (k * 7) (e.cells A2 n' c2).toList) := by
  have hty : Typed w5 66 g := (own_typed h6 g rfl).ext h8
  have kb : ∀ {T : TypeId}, T ≠ 66 → KB T w5 (w5.setCells g (k * 7) (e.cells A2 n' c2).toList) := fun hne => KB.sets hne _ _ _ hty
  have hB : ∀ {b : Nat} {cs : Array Value}, Blk wr b 27 cs → Blk (w5.setCells g (k * 7) (e.cells A2 n' c2).toList) b 27 cs := fun hb => kb (by decide) _ _ (hb.ext h8)
  refine ⟨ext_sets hgw _ _ _ (h1.trans h8), hB h2, hB h3, own_kb (own_ext h4 h8) (kb (by decide)), own_kb (own_ext h5 h8) (kb (by decide)), k + 1, hs.set k (EH.of e A2 n' c2), by omega, by simp, by simpa using hl, ?_, fun j x y hx hy => ?_⟩
  · rw [← flat_setMany EH.len hs k (EH.of e A2 n' c2) (by omega)]
    exact own_sets _ _ _ _ (own_ext h6 h8)
  · by_cases hkj : k = j
    · subst hkj
      rw [List.getElem?_set_self (by omega)] at hx
      cases hx
      rw [he] at hy
      cases hy
      exact ⟨fun _ => EGood.kb (w := w5) ⟨rfl, hnc, hn24, hf.le (by have := h1.size; omega)⟩ (kb (by decide)) (kb (by decide)), fun hh => by omega⟩
    · rw [List.getElem?_set_ne hkj] at hx
      obtain ⟨a1, a2⟩ := h7 j x y hx hy
      exact ⟨fun hh => ((a1 (by omega)).ext h8).kb (kb (by decide)) (kb (by decide)), fun hh => a2 (by omega)⟩
/-- what a copy of a document comes to -/
def DClPost (d : Doc) (w : World) (en : Ending) (w' : World) : Prop := ∃ h', en = .returned (.agg (d.cells h')) ∧ DocOwn w' w.heap.size d h' ∧ Ext w w'
theorem EH.cells_at {hs : List EH} {n g c L : Nat} {w : World} (h : w.ownsRow L 66 7 (.slice (some ⟨g, 0, none⟩) n c) n (hs.flatMap EH.vals)) {k : Nat} {x : EH} (hx : hs[k]? = some x) (hk : k < n) {j : Nat} (hj : j < 7) : w.cell? ⟨g, k * 7 + j, none⟩ = x.vals[j]? := by
  rw [h.cellAt (k * 7 + j) (by omega), flatMap_at EH.vals 7 EH.len hs k x j hx hj]
theorem size_docI : (Tryz.prog.info? 27).map (·.size) = some 8 := by kernel_rfl
set_option maxRecDepth 100000 in
set_option maxHeartbeats 4000000 in
theorem DClone_any (d : Doc) (h : DocH) (w : World) (hat : DocAt w d h) (hr : h.rn * 56 ≤ 140737488355328) (hen : h.en * 88 ≤ 140737488355328) (hcn : h.cn * 72 ≤ 140737488355328) :
    Calls Tryz.prog 62 #[.agg (d.cells h)] w (DClPost d w) := by
  have HX := Lib.hid (((Ext.refl w).alloc (.cells (d.cells h) 27)).alloc (.cells docZero 27))
  have HB := Lib.hid ((Blk.new w 27 (d.cells h)).alloc (.cells docZero 27))
  have HZ := Lib.hid (Blk.new' (w := w.alloc (.cells (d.cells h) 27)) (g := w.heap.size + 1) (t := 27) (cs := docZero) (by simp))
  have HAt := Lib.hid hat
  have HRl := Lib.hid hat.regs.len
  have HCl := Lib.hid hat.coms.len
  have HEl := Lib.hid hat.evs.len
  clear hat
  unfold Doc.cells docZero at HX HB HZ
  unfold Doc.cells
  go_enter Tryz.func62, Tryz.ntmps62
  go_wp2_with fail
  refine wp_region_links [some 5, some 6, some 7, some 8, some 9, some 10, some 11, none, some 12, none] [[], [0], [1], [], [3], [4, 2], [0, 1, 2, 3, 4], [6, 2, 5, 0, 1, 2, 3, 4], [0, 1, 2, 3, 4, 5, 6, 7], [8, 5, 7, 0, 1, 2, 3, 4, 5, 6, 7]] [2, 5, 7, 9] [.pointer (some ⟨w.heap.size, 5, none⟩), .slice h.ra h.rn h.rc, undef, .pointer (some ⟨w.heap.size, 7, none⟩), .slice h.ca h.cn h.cc, undef, .pointer (some ⟨w.heap.size, 5, none⟩), undef, .pointer (some ⟨w.heap.size, 7, none⟩), undef] (ClJ d h w w) (by kernel_rfl) (by kernel_rfl) (by kernel_rfl) (by kernel_rfl) (by kernel_rfl) (by kernel_rfl) (by kernel_rfl) (by decide) ?_ ?_ ?_ ?_
  · exact ⟨HX.out.drew, HB.out.drew, HZ.out.drew, fun u hu => by simp at hu, fun u hu => by simp at hu⟩
  · intro i o ho hc a w' us K' hJ hF hlim hk
    match i, ho with
    | 0, ho =>
      simp only [List.getElem?_toArray, List.getElem?_cons_zero, List.getElem?_cons_succ, Option.some.injEq] at ho
      subst ho
      have e1 := hF.old 1 (.pointer (some ⟨w.heap.size, 0, none⟩)) rfl rfl
      simp only [Act.eval] at e1
      clear hF hlim hJ
      go_simp
      exact hk
    | 1, ho =>
      simp only [List.getElem?_toArray, List.getElem?_cons_zero, List.getElem?_cons_succ, Option.some.injEq] at ho
      subst ho
      have e5 := hF.pure 0 5 (.pointer (some ⟨w.heap.size, 5, none⟩)) rfl rfl rfl rfl
      have hcl : w'.cell? ⟨w.heap.size, 5, none⟩ = some (.slice h.ra h.rn h.rc) := by
        have hb := hJ.blk
        have hl0 := hlim 0 2 rfl rfl
        match us, hl0, hb with
        | [], _, hb => exact hb.cell 5
        | [_], hl0, hb => first | exact hb.cell 5 | exact absurd hl0 (by simp)
        | _ :: _ :: us, hl0, _ => exact absurd hl0 (by simp)
      have hlim : True := trivial
      simp only [Act.eval] at e5
      clear hF hlim hJ
      go_simp
      exact hk
    | 2, ho => simp at hc
    | 3, ho =>
      simp only [List.getElem?_toArray, List.getElem?_cons_zero, List.getElem?_cons_succ, Option.some.injEq] at ho
      subst ho
      have e1 := hF.old 1 (.pointer (some ⟨w.heap.size, 0, none⟩)) rfl rfl
      simp only [Act.eval] at e1
      clear hF hlim hJ
      go_simp
      exact hk
    | 4, ho =>
      simp only [List.getElem?_toArray, List.getElem?_cons_zero, List.getElem?_cons_succ, Option.some.injEq] at ho
      subst ho
      have e8 := hF.pure 3 8 (.pointer (some ⟨w.heap.size, 7, none⟩)) rfl rfl rfl rfl
      have hcl : w'.cell? ⟨w.heap.size, 7, none⟩ = some (.slice h.ca h.cn h.cc) := by
        have hb := hJ.blk
        have hl0 := hlim 1 5 rfl rfl
        match us, hl0, hb with
        | [], _, hb => exact hb.cell 7
        | [_], hl0, hb => first | exact hb.cell 7 | exact absurd hl0 (by simp)
        | _ :: _ :: us, hl0, _ => exact absurd hl0 (by simp)
      have hlim : True := trivial
      simp only [Act.eval] at e8
      clear hF hlim hJ
      go_simp
      exact hk
    | 5, ho => simp at hc
    | 6, ho =>
      simp only [List.getElem?_toArray, List.getElem?_cons_zero, List.getElem?_cons_succ, Option.some.injEq] at ho
      subst ho
      have e1 := hF.old 1 (.pointer (some ⟨w.heap.size, 0, none⟩)) rfl rfl
      simp only [Act.eval] at e1
      clear hF hlim hJ
      go_simp
      exact hk
    | 7, ho => simp at hc
    | 8, ho =>
      simp only [List.getElem?_toArray, List.getElem?_cons_zero, List.getElem?_cons_succ, Option.some.injEq] at ho
      subst ho
      have e1 := hF.old 1 (.pointer (some ⟨w.heap.size, 0, none⟩)) rfl rfl
      simp only [Act.eval] at e1
      clear hF hlim hJ
      go_simp
      exact hk
    | 9, ho => simp at hc
    | i + 10, ho => simp at ho
  · intro p c' o hp ho a w' us K' hl hJ hF hk
    match p, hp with
    | 0, hp =>
      obtain rfl : 2 = c' := by simpa using hp
      simp only [List.getElem?_toArray, List.getElem?_cons_zero, List.getElem?_cons_succ, Option.some.injEq] at ho
      subst ho
      obtain rfl : us = [] := List.eq_nil_of_length_eq_zero hl
      have e6 := hF.pure 1 6 (.slice h.ra h.rn h.rc) rfl rfl rfl rfl
      refine wp_call1 rfl e6 Tryz.call125 (CloneRegs_any h.ra h.rn h.rc d.regs w' (RegsAt.vals (HAt.out.regs.ext hJ.ext)) hr) ?_
      rintro en w4 ⟨A4, c4, rfl, ho4, hx4⟩
      exact ⟨_, rfl, hk _ _ (hJ.call0 hx4 ho4)⟩
    | 1, hp =>
      obtain rfl : 5 = c' := by simpa using hp
      simp only [List.getElem?_toArray, List.getElem?_cons_zero, List.getElem?_cons_succ, Option.some.injEq] at ho
      subst ho
      obtain ⟨u0, rfl⟩ := list_1 hl
      have e9 := hF.pure 4 9 (.slice h.ca h.cn h.cc) rfl rfl rfl rfl
      refine wp_call1 rfl e9 Tryz.call115 (CloneComs_any h.ca h.cn h.cc d.coms w' (HAt.out.coms.ext hJ.ext) hcn) ?_
      rintro en w4 ⟨A4, c4, rfl, ho4, hx4⟩
      exact ⟨_, rfl, hk _ _ (hJ.call1 hx4 ho4)⟩
    | 2, hp =>
      obtain rfl : 7 = c' := by simpa using hp
      simp only [List.getElem?_toArray, List.getElem?_cons_zero, List.getElem?_cons_succ, Option.some.injEq] at ho
      subst ho
      obtain ⟨u0, u1, rfl⟩ := list_2 hl
      obtain ⟨A9, c9, hu9, _⟩ := hJ.regs u0 rfl
      have e11 := hF.pure 6 11 (.pointer (some ⟨w.heap.size, 5, none⟩)) rfl rfl rfl rfl
      have e7 := hF.link 0 2 7 _ rfl rfl rfl rfl
      subst hu9
      have hput := hJ.put undef (.inl rfl)
      have hb := hJ.blk
      rw [clCells_2] at hb
      have hcl := hb.cell 5
      have hfr := hb.frozen 5
      have hset := setCell_put hb 5 (.slice A9 h.rn c9)
      unfold Doc.cells at hcl hset
      simp at hset
      have HK := Lib.hid (hk undef _ hput)
      unfold clCells Doc.cells3 at HK
      clear hput hb hk hF hJ
      simp only [Act.eval] at e11 e7
      go_simp
      exact HK.out
    | 3, hp =>
      obtain rfl : 9 = c' := by simpa using hp
      simp only [List.getElem?_toArray, List.getElem?_cons_zero, List.getElem?_cons_succ, Option.some.injEq] at ho
      subst ho
      obtain ⟨u0, u1, u2, rfl⟩ := list_3 hl
      obtain ⟨A9, c9, hu9, _⟩ := hJ.coms u1 rfl
      have e12 := hF.pure 8 12 (.pointer (some ⟨w.heap.size, 7, none⟩)) rfl rfl rfl rfl
      have e10 := hF.link 1 5 10 _ rfl rfl rfl rfl
      subst hu9
      have hput := hJ.put undef (.inr rfl)
      have hb := hJ.blk
      unfold clCells at hb
      have hcl := hb.cell 7
      have hfr := hb.frozen 7
      have hset := setCell_put hb 7 (.slice A9 h.cn c9)
      unfold Doc.cells3 at hcl hset
      simp at hset
      have HK := Lib.hid (hk undef _ hput)
      unfold clCells Doc.cells3 at HK
      clear hput hb hk hF hJ
      simp only [Act.eval] at e12 e10
      go_simp
      exact HK.out
    | p + 4, hp => simp at hp
  intro us W1 hl hJ
  obtain ⟨u0, u1, u2, u3, rfl⟩ := list_4 hl
  rename_i hK
  refine hK _ _ ?_
  clear hK
  generalize hL : frameL _ _ _ _ = L
  obtain rfl : L = [(5, .pointer (some ⟨w.heap.size, 5, none⟩)), (6, .slice h.ra h.rn h.rc), (7, u0), (8, .pointer (some ⟨w.heap.size, 7, none⟩)), (9, .slice h.ca h.cn h.cc), (10, u1), (11, .pointer (some ⟨w.heap.size, 5, none⟩)), (12, .pointer (some ⟨w.heap.size, 7, none⟩))] := hL.symm.trans (by kernel_rfl)
  clear hL hl
  simp only [Act.put, List.foldl_cons, List.foldl_nil, List.setIfInBounds_toArray, List.set_cons_zero, List.set_cons_succ]
  obtain ⟨A0, c0, hu0, ho0⟩ := hJ.regs u0 rfl
  obtain ⟨A1, c1, hu1, ho1⟩ := hJ.coms u1 rfl
  subst hu0 hu1
  have hx1 := hJ.ext
  have hb1 : Blk W1 w.heap.size 27 (d.cells3 (.slice A0 h.rn c0) (.slice h.ea h.en h.ec) (.slice A1 h.cn c1)) := hJ.blk
  have hz1 := hJ.zero
  clear hJ
  obtain ⟨hs0, hsl0, hgd0⟩ := evs_heads HAt.out.evs
  have HHs := Lib.hid hsl0
  have HGd := Lib.hid hgd0
  clear hsl0 hgd0
  have HX1 := Lib.hid hx1
  have HB1 := Lib.hid hb1
  have HZ1 := Lib.hid hz1
  have HR1 := Lib.hid ho0
  have HC1 := Lib.hid ho1
  clear hx1 hb1 hz1 ho0 ho1
  have hc1 := fun o => HB1.out.cell o
  unfold Doc.cells3 at hc1
  go_wp2_with fail
  refine (CloneEHs_any h.ea h.en h.ec hs0 _ (Sl.ext (Cells.stays _) HHs.out HX1.out) hen).mono ?_
  rintro en w2 ⟨ea, ec, rfl, hown2, hx2⟩
  have HX2 := Lib.hid (HX1.out.trans hx2)
  have HB2 := Lib.hid (HB1.out.ext hx2)
  have HZ2 := Lib.hid (HZ1.out.ext hx2)
  have HR2 := Lib.hid (own_ext HR1.out hx2)
  have HC2 := Lib.hid (own_ext HC1.out hx2)
  have HO2 := Lib.hid (own_le hown2 HX1.out.size)
  clear hx2 hown2 hc1
  have hc2 := fun o => HB2.out.cell o
  have hf2 := fun o => HB2.out.frozen o
  have hs2 := fun u => setCell_put HB2.out 6 u
  have HB3 := Lib.hid (HB2.out.put (d.cells3 (.slice A0 h.rn c0) (.slice ea h.en ec) (.slice A1 h.cn c1)))
  unfold Doc.cells3 at hc2 hs2
  simp at hs2
  have hc3 := fun o => HB3.out.cell o
  unfold Doc.cells3 at hc3
  go_wp2_with fail
  clear hc2 hf2 hs2 hc3
  go_loopw [20] (fun i wr => DClRel d h w (.slice A0 h.rn c0) (.slice A1 h.cn c1) ea ec i wr) (fun i _ => h.en - (intOf i).toNat)
  case atStart =>
    refine ⟨HX2.out.put (Nat.le_refl _) _ _, HB3.out, HZ2.out.put_other (by omega) _, own_kb HR2.out (KB.put HB2.out (by decide)), own_kb HC2.out (KB.put HB2.out (by decide)), 0, hs0, Nat.zero_le _, rfl, HHs.out.len, own_kb HO2.out (KB.put HB2.out (by decide)), fun j x e hx he => ⟨fun hh => by omega, fun _ => ?_⟩⟩
    have := HGd.out j x e hx he
    exact ⟨_, _, _, this.1, this.2⟩
  case round =>
    obtain ⟨hx, hb, hz, hor, hoc, k, hs, hk, rfl, hsl, hoe, hall⟩ := hrel
    have HXr := Lib.hid hx
    have HBr := Lib.hid hb
    have HZr := Lib.hid hz
    have HRr := Lib.hid hor
    have HCr := Lib.hid hoc
    have HOr := Lib.hid hoe
    have HAl := Lib.hid hall
    have HSl := Lib.hid hsl
    clear hx hb hz hor hoc hsl hoe hall
    have hcr := fun o => HBr.out.cell o
    unfold Doc.cells3 at hcr
    by_cases hlt : k < h.en
    · obtain ⟨g, cp, hv, hgb, hglt⟩ := own_form HOr.out (by omega)
      have hA1 : ea = some ⟨g, 0, none⟩ := by injection hv
      subst hA1
      obtain ⟨x, hxx⟩ : ∃ x, hs[k]? = some x := ⟨_, List.getElem?_eq_getElem (by rw [HSl.out]; exact hlt)⟩
      obtain ⟨e, hee⟩ : ∃ e, d.evs[k]? = some e := ⟨_, List.getElem?_eq_getElem (by rw [HEl.out]; exact hlt)⟩
      obtain ⟨A', n', c', rfl, hev⟩ := (HAl.out k x e hxx hee).2 (Nat.le_refl _)
      have HCk := Lib.hid (fun (j : Nat) (hj : j < 7) => EH.cells_at HOr.out hxx hlt (j := j) hj)
      have HEe := Lib.hid hee
      have HEv := Lib.hid hev
      have hn24 := hev.2.2
      have c0 : wr.cell? ⟨g, k * 7, none⟩ = some (.int .i64 e.id) := by have := HCk.out 0 (by omega); simpa [EH.vals, EH.of] using this
      have c1' : wr.cell? ⟨g, k * 7 + 1, none⟩ = some (.int .i64 e.inn) := HCk.out 1 (by omega)
      have c2' : wr.cell? ⟨g, k * 7 + 2, none⟩ = some (.int .i64 e.out) := HCk.out 2 (by omega)
      have c3' : wr.cell? ⟨g, k * 7 + 3, none⟩ = some (.string e.region) := HCk.out 3 (by omega)
      have c4' : wr.cell? ⟨g, k * 7 + 4, none⟩ = some (.int .u8 e.kind) := HCk.out 4 (by omega)
      have c5' : wr.cell? ⟨g, k * 7 + 5, none⟩ = some (.string e.speaker) := HCk.out 5 (by omega)
      have c6' : wr.cell? ⟨g, k * 7 + 6, none⟩ = some (.slice A' n' c') := HCk.out 6 (by omega)
      clear hxx hee hev
      go_wp2_with fail
      clear c0 c1' c2' c3' c4' c5' c6' hcr
      have HB4 := Lib.hid (HBr.out.alloc (.cells #[.int .i64 e.id, .int .i64 e.inn, .int .i64 e.out, .string e.region, .int .u8 e.kind, .string e.speaker, .slice A' n' c'] 66))
      have HE4 := Lib.hid (Blk.new wr 66 #[.int .i64 e.id, .int .i64 e.inn, .int .i64 e.out, .string e.region, .int .u8 e.kind, .string e.speaker, .slice A' n' c'])
      have HX4 := Lib.hid ((Ext.refl wr).alloc (.cells #[.int .i64 e.id, .int .i64 e.inn, .int .i64 e.out, .string e.region, .int .u8 e.kind, .string e.speaker, .slice A' n' c'] 66))
      have hsz4 := HX4.out.size
      generalize hw4 : wr.alloc (.cells #[.int .i64 e.id, .int .i64 e.inn, .int .i64 e.out, .string e.region, .int .u8 e.kind, .string e.speaker, .slice A' n' c'] 66) = w4 at *
      refine wp_region_links [some 25, some 26, some 27, some 28, some 29, some 30, none] [[], [0], [], [], [3], [1, 2, 0, 1, 2, 3, 4], [5, 4, 4, 0, 1, 2, 3, 4]] [4, 6] [.pointer (some ⟨w.heap.size, 6, none⟩), .slice (some ⟨g, 0, none⟩) h.en ec, .int .i64 (k : Int), .agg #[.int .i64 e.id, .int .i64 e.inn, .int .i64 e.out, .string e.region, .int .u8 e.kind, .string e.speaker, .slice A' n' c'], undef, .pointer (some ⟨g, k * 7, none⟩), undef] (CeJ e g k n' w4) (by kernel_rfl) (by kernel_rfl) (by kernel_rfl) (by kernel_rfl) (by kernel_rfl) (by kernel_rfl) (by kernel_rfl) (by decide) ?_ ?_ ?_ ?_
      · exact ⟨fun _ => (Ext.refl w4).drew, fun u hu => by simp at hu, fun u v hu => by simp at hu⟩
      · intro i o ho hc a w' us K' hJ hF hlim hk
        match i, ho with
        | 0, ho =>
          simp only [List.getElem?_toArray, List.getElem?_cons_zero, List.getElem?_cons_succ, Option.some.injEq] at ho
          subst ho
          have e1 := hF.old 1 (.pointer (some ⟨w.heap.size, 0, none⟩)) rfl rfl
          simp only [Act.eval] at e1
          clear hF hlim hJ
          go_simp
          exact hk
        | 1, ho =>
          simp only [List.getElem?_toArray, List.getElem?_cons_zero, List.getElem?_cons_succ, Option.some.injEq] at ho
          subst ho
          have e25 := hF.pure 0 25 (.pointer (some ⟨w.heap.size, 6, none⟩)) rfl rfl rfl rfl
          have hX6 : ∃ w6, Ext w4 w6 ∧ KB 27 w6 w' := by
            have hl1 := hlim 1 6 rfl rfl
            match us, hl1, hJ with
            | [], _, hJ => exact ⟨w', hJ.nil rfl, KB.refl _⟩
            | [u], _, hJ => obtain ⟨_, _, _, _, _, h4⟩ := hJ.one u rfl; exact ⟨w', h4, KB.refl _⟩
            | _ :: _ :: _, hl1, _ => exact absurd hl1 (by simp)
          obtain ⟨w6, hX6, hK6⟩ := hX6
          have hcl : w'.cell? ⟨w.heap.size, 6, none⟩ = some (.slice (some ⟨g, 0, none⟩) h.en ec) := Blk.cell (hK6 _ _ (HB4.out.ext hX6)) 6
          clear hX6 hK6
          simp only [Act.eval] at e25
          clear hF hlim hJ
          go_simp
          exact hk
        | 2, ho =>
          simp only [List.getElem?_toArray, List.getElem?_cons_zero, List.getElem?_cons_succ, Option.some.injEq] at ho
          subst ho
          have e3 := hF.old 3 (.int .i64 (k : Int)) rfl rfl
          simp only [Act.eval] at e3
          clear hF hlim hJ
          go_simp
          exact hk
        | 3, ho =>
          simp only [List.getElem?_toArray, List.getElem?_cons_zero, List.getElem?_cons_succ, Option.some.injEq] at ho
          subst ho
          have e4 := hF.old 4 (.pointer (some ⟨wr.heap.size, 0, none⟩)) rfl rfl
          have hX6 : Ext w4 w' := by
            have hl0 := hlim 0 4 rfl rfl
            exact hJ.nil (List.eq_nil_of_length_eq_zero (by omega))
          exact wp_loadBk 66 (.tmp 4) rfl _ 66 _ _ e4 (HE4.out.ext hX6) Tryz.underlying66 rfl (by exact size_event) hk
        | 4, ho => simp at hc
        | 5, ho =>
          simp only [List.getElem?_toArray, List.getElem?_cons_zero, List.getElem?_cons_succ, Option.some.injEq] at ho
          subst ho
          have e26 := hF.pure 1 26 (.slice (some ⟨g, 0, none⟩) h.en ec) rfl rfl rfl rfl
          have e27 := hF.pure 2 27 (.int .i64 (k : Int)) rfl rfl rfl rfl
          exact wp_ix_ev rfl e26 e27 hlt (by rw [Nat.zero_add]; exact hk)
        | 6, ho => simp at hc
        | i + 7, ho => simp at ho
      · intro p c' o hp ho a w' us K' hl hJ hF hk
        match p, hp with
        | 0, hp =>
          obtain rfl : 4 = c' := by simpa using hp
          simp only [List.getElem?_toArray, List.getElem?_cons_zero, List.getElem?_cons_succ, Option.some.injEq] at ho
          subst ho
          obtain rfl : us = [] := List.eq_nil_of_length_eq_zero hl
          have e28 := hF.pure 3 28 (.agg #[.int .i64 e.id, .int .i64 e.inn, .int .i64 e.out, .string e.region, .int .u8 e.kind, .string e.speaker, .slice A' n' c']) rfl rfl rfl rfl
          have hX6 := hJ.nil rfl
          refine wp_call1 rfl e28 Tryz.call57 (EClone_any e A' n' c' w' (HEv.out.ext (HXr.out.trans (HX4.out.trans hX6)))) ?_
          rintro en w8 ⟨A8, c8, rfl, hnc8, hrf8, hx8⟩
          exact ⟨_, rfl, hk _ _ ⟨fun h => absurd h (by simp), fun u hu => by simp at hu; subst hu; exact ⟨A8, c8, rfl, hnc8, hrf8.le hX6.size, hX6.trans hx8⟩, fun u v hu => by simp at hu⟩⟩
        | 1, hp =>
          obtain rfl : 6 = c' := by simpa using hp
          simp only [List.getElem?_toArray, List.getElem?_cons_zero, List.getElem?_cons_succ, Option.some.injEq] at ho
          subst ho
          obtain ⟨u0, rfl⟩ := list_1 hl
          obtain ⟨A2, c2, hu9, hnc, hrf, hx9⟩ := hJ.one u0 rfl
          subst hu9
          have e30 := hF.pure 5 30 (.pointer (some ⟨g, k * 7, none⟩)) rfl rfl rfl rfl
          have e29 := hF.link 0 4 29 _ rfl rfl rfl rfl
          refine wp_store_mid 66 (.tmp 30) (.tmp 29) rfl g (k * 7) (e.cells A2 n' c2) e30 e29 (fun j hj => ?_) (by exact size_event) (by simp [Ev.cells, Value.oneCell']) ?_
          · have hO9 := own_ext (own_ext HOr.out HX4.out) hx9
            have hj7 : j < 7 := hj
            have h8 : k * 7 + j < (hs.flatMap EH.vals).length := by rw [hO9.1]; omega
            exact ⟨by rw [hO9.cellAt _ (by omega), List.getElem?_eq_getElem h8]; rfl, hO9.frozenAt _⟩
          · exact hk undef _ ⟨fun h => absurd h (by simp), fun u hu => by simp at hu, fun u v hu => by simp at hu; obtain ⟨rfl, rfl⟩ := hu; exact ⟨A2, c2, w', rfl, hnc, hrf, hx9, rfl⟩⟩
        | p + 2, hp => simp at hp
      intro us W9 hl hJ
      obtain ⟨u0_1, u1_1, rfl⟩ := list_2 hl
      rename_i hK
      refine hK _ _ ?_
      clear hK
      generalize hL : frameL _ _ _ _ = L
      obtain rfl : L = [(25, .pointer (some ⟨w.heap.size, 6, none⟩)), (26, .slice (some ⟨g, 0, none⟩) h.en ec), (27, .int .i64 (k : Int)), (28, .agg #[.int .i64 e.id, .int .i64 e.inn, .int .i64 e.out, .string e.region, .int .u8 e.kind, .string e.speaker, .slice A' n' c']), (29, u0_1), (30, .pointer (some ⟨g, k * 7, none⟩))] := hL.symm.trans (by kernel_rfl)
      clear hL hl
      simp only [Act.put, List.foldl_cons, List.foldl_nil, List.setIfInBounds_toArray, List.set_cons_zero, List.set_cons_succ]
      obtain ⟨A2, c2, w5, rfl, hnc2, hrf2, hx5, rfl⟩ := hJ.two u0_1 u1_1 rfl
      clear hJ
      go_wp2_with fail
      exact ⟨DClRel.step hgb HXr.out HBr.out HZr.out HRr.out HCr.out hlt HSl.out HOr.out HAl.out HEe.out (HX4.out.trans hx5) hsz4 hnc2 hn24 hrf2, by simp [intOf]; omega⟩
    · have hkn : k = h.en := by omega
      subst hkn
      unfold Doc.cells3 at HBr
      unfold docZero at HZr
      clear hcr
      go_wp2_with (first | (refine wpList_loadB rfl 27 (.tmp 1) rfl w.heap.size 27 _ _ (by exact rfl) (by exact HBr.out) Tryz.underlying27 rfl (by exact size_docI) ?_) | (refine wpList_storeB rfl 27 (.tmp 2) (.tmp 32) rfl (w.heap.size + 1) 27 _ _ (by exact rfl) (by exact rfl) (by exact HZr.out) (by exact rfl) (by exact size_docI) (by simp [Value.oneCell']) ?_))
      refine bodyPost_ret (v := .agg (d.cells ⟨A0, h.rn, c0, ea, h.en, ec, A1, h.cn, c1⟩)) ?_ rfl ⟨⟨A0, h.rn, c0, ea, h.en, ec, A1, h.cn, c1⟩, rfl, ?_, ?_⟩
      · exact results_B (P := Tryz.prog) Tryz.results62 (g := w.heap.size + 1) rfl (by exact HZr.out.put _) Tryz.underlying27 rfl size_docI
      · refine DocOwn.put (h := ⟨A0, h.rn, c0, ea, h.en, ec, A1, h.cn, c1⟩) (cs := docZero) ⟨HRr.out, HRl.out, ⟨hs, HOr.out, HSl.out, HEl.out, fun i x e hx he => (HAl.out i x e hx he).1 (by have := (List.getElem?_eq_some_iff.1 hx).1; have := HSl.out; omega)⟩, HCr.out, HCl.out⟩ HZr.out _
      · exact HXr.out.put (by omega) _ _
end Go.Proofs.YtagfedbdakmlgaaGreatDoor

/-! DocV -/
namespace Go.Proofs.YtagfedbdakmlgaaGreatDoor
set_option linter.unusedVariables false
set_option linter.unusedSimpArgs false
open Go.RowKit
theorem doc_ok {d : Doc} (h : d.err = 0) : d.headErr = 0 ∧ regsErr d.regs = 0 ∧ d.evs.length ≤ 400 ∧ evsLoop d.regs d.last [] d.evs = 0 ∧ d.coms.length ≤ 64 ∧ comsLoop d.last d.evs none d.coms = 0 := by
  unfold Doc.err at h
  split at h
  · rename_i h1; exact absurd h h1
  · rename_i h1
    split at h
    · rename_i h2; exact absurd h h2
    · rename_i h2
      split at h
      · simp at h
      · rename_i h3
        split at h
        · rename_i h4; exact absurd h h4
        · rename_i h4
          split at h
          · simp at h
          · rename_i h5
            exact ⟨by simpa using h1, by simpa using h2, by omega, by simpa using h4, by omega, h⟩
theorem head_ok' {d : Doc} (h : d.headErr = 0) : vld d.title = true ∧ d.title.size ≤ 400 ∧ ¬ (d.lang.toList.isEmpty = false ∧ nameB d.lang = false) ∧ rateOkB d.rate d.drop = true ∧ 0 ≤ d.last ∧ d.last ≤ 1099511627776 := by
  unfold Doc.headErr at h
  split at h
  · simp at h
  · rename_i h1
    split at h
    · simp at h
    · rename_i h2
      split at h
      · simp at h
      · rename_i h3
        split at h
        · simp at h
        · rename_i h4
          split at h
          · simp at h
          · rename_i h5
            exact ⟨by simpa using h1, by omega, h3, by simpa using h4, by omega, by omega⟩
/-- each event behind those ahead of it -/
theorem evs_ok {regs : List Reg} {last : Int} : ∀ {l pre : List Ev}, evsLoop regs last pre l = 0 → ∀ (k : Nat) (x : Ev), l[k]? = some x →
    x.err regs = 0 ∧ x.id ≤ last ∧ ¬ (((pre ++ l.take k).getLast?.map fun p => lessB p x) = some false) ∧ findE (pre ++ l.take k) x.id = none
  | [], pre, _, k, x, hx => by simp at hx
  | y :: l, pre, h, 0, x, hx => by
    simp at hx; subst hx
    rw [evs_cons] at h
    split at h
    · rename_i h1; exact absurd h h1
    · rename_i h1
      have h1' : evErr regs last pre y = 0 := by simpa using h1
      unfold evErr at h1'
      split at h1'
      · rename_i h2; exact absurd h1' h2
      · rename_i h2
        split at h1'
        · simp at h1'
        · rename_i h3
          split at h1'
          · simp at h1'
          · rename_i h4
            split at h1'
            · simp at h1'
            · rename_i h5
              refine ⟨by simpa using h2, by omega, by simpa using h4, ?_⟩
              simp only [List.take_zero, List.append_nil]
              cases hf : findE pre y.id with
              | none => rfl
              | some j => rw [hf] at h5; simp at h5
  | y :: l, pre, h, k + 1, x, hx => by
    rw [evs_cons] at h
    split at h
    · rename_i h1; exact absurd h h1
    · have := evs_ok h k x (by simpa using hx)
      simpa using this
theorem evs_all {regs : List Reg} {last : Int} : ∀ {l pre : List Ev}, (∀ (k : Nat) (x : Ev), l[k]? = some x → evErr regs last (pre ++ l.take k) x = 0) → evsLoop regs last pre l = 0
  | [], pre, _ => rfl
  | y :: l, pre, h => by
    have h0 := h 0 y rfl
    simp at h0
    rw [evs_cons, if_neg (by simpa using h0)]
    refine evs_all fun k x hx => ?_
    have := h (k + 1) x (by simpa using hx)
    simpa using this
/-- each comment behind those ahead of it -/
theorem coms_ok {last : Int} {evs : List Ev} {l : List Com} (h : comsLoop last evs none l = 0) : ∀ (k : Nat) (c : Com), l[k]? = some c → c.err last evs (prevC l k) = 0 := by
  have key : ∀ k, k ≤ l.length → comsLoop last evs (prevC l k) (l.drop k) = 0 := by
    intro k
    induction k with
    | zero => intro _; exact h
    | succ k ih =>
      intro hk
      have h1 := ih (by omega)
      obtain ⟨c, hc⟩ : ∃ c, l[k]? = some c := ⟨_, List.getElem?_eq_getElem (by omega)⟩
      obtain ⟨h2, h3⟩ := coms_step hc h1.symm
      by_cases he : c.err last evs (prevC l k) = 0
      · exact (h3 he).symm
      · exact absurd (h2 he).symm he
  intro k c hc
  have hk := (List.getElem?_eq_some_iff.1 hc).1
  obtain ⟨h2, _⟩ := coms_step hc (key k (by omega)).symm
  by_cases he : c.err last evs (prevC l k) = 0
  · exact he
  · exact absurd (h2 he).symm he
theorem com_ok {c : Com} {last : Int} {evs : List Ev} {p : Option Int} (h : c.err last evs p = 0) : 1 ≤ c.id ∧ c.id ≤ last ∧ ¬ ((p.map fun q => decide (c.id ≤ q)) = some true) ∧ findE evs c.id = none ∧ c.anchorErr last evs = 0 ∧ nameB c.author = true ∧ vld c.text = true ∧ c.text.toList.isEmpty = false ∧ c.text.size ≤ 400 := by
  unfold Com.err at h
  split at h
  · simp at h
  · rename_i h1
    split at h
    · simp at h
    · rename_i h2
      split at h
      · simp at h
      · rename_i h3
        split at h
        · rename_i h4; exact absurd h h4
        · rename_i h4
          split at h
          · simp at h
          · rename_i h5
            split at h
            · simp at h
            · rename_i h6
              split at h
              · simp at h
              · rename_i h7
                split at h
                · simp at h
                · rename_i h8
                  refine ⟨by omega, by omega, h2, ?_, by simpa using h4, by simpa using h5, by simpa using h6, by simpa using h7, by omega⟩
                  cases hf : findE evs c.id with
                  | none => rfl
                  | some j => rw [hf] at h3; simp at h3
theorem anchor_ok {c : Com} {last : Int} {evs : List Ev} (h : c.anchorErr last evs = 0) : 1 ≤ c.ev ∧ c.ev ≤ last ∧ (c.lost = true → c.fr = 0 ∧ c.til = 0) ∧ (c.lost = false → ∃ k e, findE evs c.ev = some k ∧ evs[k]? = some e ∧ 0 ≤ c.fr ∧ c.fr < c.til ∧ c.til ≤ e.len) := by
  by_cases h1 : c.ev < 1 ∨ last < c.ev
  · rw [anc_no h1] at h; simp at h
  cases hl : c.lost
  · cases hf : findE evs c.ev with
    | none => rw [anc_none h1 hl hf] at h; simp at h
    | some k =>
      have hk := findE_lt hf
      rw [anc_some h1 hl hf (List.getElem?_eq_getElem hk)] at h
      split at h
      · simp at h
      · refine ⟨by omega, by omega, fun hh => by simp at hh, fun _ => ⟨k, _, rfl, List.getElem?_eq_getElem hk, by omega, by omega, by omega⟩⟩
  · rw [anc_lost h1 hl] at h
    split at h
    · simp at h
    · exact ⟨by omega, by omega, fun _ => by omega, fun hh => by simp at hh⟩
theorem ev_ok {e : Ev} {regs : List Reg} (h : e.err regs = 0) : 1 ≤ e.id ∧ e.id ≤ 1099511627776 ∧ spansB e.inn e.out = true := by
  unfold Ev.err at h
  split at h
  · simp at h
  · rename_i h1
    refine ⟨by omega, by omega, ?_⟩
    cases hs : spansB e.inn e.out
    · exact absurd (.inr (.inr hs)) h1
    · rfl
end Go.Proofs.YtagfedbdakmlgaaGreatDoor

/-! RateR -/
namespace Go.Proofs.YtagfedbdakmlgaaGreatDoor
set_option linter.unusedVariables false
set_option linter.unusedSimpArgs false
open Go.RowKit
end Go.Proofs.YtagfedbdakmlgaaGreatDoor

/-! ConvW -/
namespace Go.Proofs.YtagfedbdakmlgaaGreatDoor
set_option linter.unusedVariables false
set_option linter.unusedSimpArgs false
open Go.RowKit
def tupI (p : Int × Int) : Value := .tuple #[.int .i64 p.1, .int .i64 p.2]
def tupS (p : (Int × Int) × Int) : Value := .tuple #[.agg #[.int .i64 p.1.1, .int .i64 p.1.2], .int .i64 p.2]
end Go.Proofs.YtagfedbdakmlgaaGreatDoor

/-! RetK -/
namespace Go.Proofs.YtagfedbdakmlgaaGreatDoor
set_option linter.unusedVariables false
set_option linter.unusedSimpArgs false
open Go.RowKit Go.Maps
theorem results_B_tmp2 {P : Program} {fn : Func} {p u v : Tmp} {ty : TypeId} (h : fn.results = #[.cell p ty, .tmp u, .tmp v]) {tmps : Array Value} {w : World} {g : Nat} {t : TypeId} {cs : Array Value} {d : TypeDesc} (hp : tmps.getD p undef = .pointer (some ⟨g, 0, none⟩))
    (hB : Blk w g t cs) (hu : P.underlying ty = some d) (hd : d.isRow = true) (hi : (P.info? ty).map (·.size) = some cs.size) : (results fn tmps).run P w = .ok (.tuple #[.agg cs, tmps.getD u undef, tmps.getD v undef]) w := by
  have h1 := run_loadVarB (P := P) g t ty cs d hB hu hd hi
  simp only [results, h]
  have e : tmps[p]?.getD undef = .pointer (some ⟨g, 0, none⟩) := by simpa using hp
  simp [Sem.run_bind, e, run_asAddr, h1]
def docH0 : DocH := ⟨none, 0, 0, none, 0, 0, none, 0, 0⟩
theorem docZero_cells : Doc.zero.cells docH0 = docZero := rfl
/-- what Retime comes to -/
def RetPost (d : Doc) (b : Int) (drop : Bool) (m : Int) (w : World) (en : Ending) (w' : World) : Prop :=
  ∃ h' A n c, en = .returned (.tuple #[.agg ((d.retD b drop m).cells h'), .slice A n c, .int .i64 (d.retE b drop m)]) ∧ DocAt w' (d.retD b drop m) h' ∧ DrisAt w' A n (d.retL b drop m) ∧ n ≤ c ∧ Ext w w'
section
variable {d : Doc} {b m : Int} {drop : Bool}
end
theorem KM.trans {w w1 w2 : World} (h : KM w w1) (k : KM w1 w2) : KM w w2 := fun b es cl hb => k b es cl (h b es cl hb)
theorem mapIdx_at {α β : Type} (f : Nat → α → β) {l : List α} {k : Nat} (hk : k ≤ l.length) : ((l.take k).mapIdx f).length = k := by simp; omega
/-- the events while they are turned: those ahead of place k are new -/
def midEvs (a b m : Int) (l : List Ev) (k : Nat) : List Ev := retEvs a b m (l.take k) ++ l.drop k
theorem midEvs_at {a b m : Int} {l : List Ev} {k : Nat} {x : Ev} (h : l[k]? = some x) : (midEvs a b m l k)[k]? = some x := by
  have hk := (List.getElem?_eq_some_iff.1 h).1
  unfold midEvs retEvs
  rw [List.getElem?_append_right (by rw [mapIdx_at _ (by omega)]; exact Nat.le_refl _), mapIdx_at _ (by omega), Nat.sub_self, List.getElem?_drop, Nat.add_zero]
  exact h
theorem midEvs_set {a b m : Int} {l : List Ev} {k : Nat} {x : Ev} (h : l[k]? = some x) : (midEvs a b m l k).set k (retEv a b m k x) = midEvs a b m l (k + 1) := by
  have hk := (List.getElem?_eq_some_iff.1 h).1
  have hl : (retEvs a b m (l.take k)).length = k := mapIdx_at _ (by omega)
  unfold midEvs
  rw [drop_at l k x h, List.set_append_right _ _ (by omega), hl, Nat.sub_self, List.set_cons_zero]
  unfold retEvs
  rw [mapIdx_take _ h, List.append_assoc]
  rfl
theorem retDris_take {a b m : Int} {l : List Ev} {k : Nat} {x : Ev} (h : l[k]? = some x) : retDris a b m (l.take (k + 1)) = retDris a b m (l.take k) ++ [retDri a b m k x] := mapIdx_take _ h
structure RtRel (d : Doc) (h : DocH) (b m : Int) (oc : Array Value) (B M : Nat) (hh : DocH) (w : World) (k : Nat) (v : Value) (wr : World) : Prop where
  ext : Ext w wr
  doc : Blk wr w.heap.size 27 (d.cells h)
  zero : Blk wr (w.heap.size + 1) 27 docZero
  out : Blk wr B 27 oc
  regs : wr.ownsRow w.heap.size 94 7 (.slice hh.ra hh.rn hh.rc) hh.rn (d.regs.flatMap Reg.vals)
  evs : EvsOwn wr w.heap.size (.slice hh.ea hh.en hh.ec) hh.en (midEvs d.rate b m d.evs k)
  map : MapI wr 2 M (d.evs.take k)
  dris : wr.ownsRow w.heap.size 98 3 v k ((retDris d.rate b m (d.evs.take k)).flatMap Dri.vals)
def RtLoop (d : Doc) (h : DocH) (b m : Int) (oc : Array Value) (B M : Nat) (hh : DocH) (w : World) (i v : Value) (wr : World) : Prop :=
  ∃ k : Nat, k ≤ hh.en ∧ i = .int .i64 k ∧ RtRel d h b m oc B M hh w k v wr ∧ retErr d.rate b m d.evs = retErr d.rate b m (d.evs.drop k)
section
variable {d : Doc} {h hh : DocH} {b m : Int} {oc : Array Value} {B M k : Nat} {w wr w1 : World} {v : Value}
theorem RtRel.grow (r : RtRel d h b m oc B M hh w k v wr) (hx : Ext wr w1) : RtRel d h b m oc B M hh w k v w1 :=
  ⟨r.ext.trans hx, r.doc.ext hx, r.zero.ext hx, r.out.ext hx, own_ext r.regs hx, r.evs.ext hx, r.map.ext hx, own_ext r.dris hx⟩
/-- all but the map and what is not known of it -/
theorem RtRel.turned {x : Ev} (r : RtRel d h b m oc B M hh w k v wr) (hx : d.evs[k]? = some x) (ht : wr.mapTurned w1 M) (hM : w.heap.size ≤ M) : Ext w w1 ∧ Blk w1 w.heap.size 27 (d.cells h) ∧ Blk w1 (w.heap.size + 1) 27 docZero ∧ Blk w1 B 27 oc ∧
    w1.ownsRow w.heap.size 94 7 (.slice hh.ra hh.rn hh.rc) hh.rn (d.regs.flatMap Reg.vals) ∧ EvsOwn w1 w.heap.size (.slice hh.ea hh.en hh.ec) hh.en (midEvs d.rate b m d.evs k) ∧ w1.ownsRow w.heap.size 98 3 v k ((retDris d.rate b m (d.evs.take k)).flatMap Dri.vals) :=
  ⟨turned_ext ht r.ext hM, r.doc.kb (KB.turned ht), r.zero.kb (KB.turned ht), r.out.kb (KB.turned ht), own_kb r.regs (KB.turned ht), r.evs.kb (KB.turned ht) (KB.turned ht) (KB.turned ht), own_kb r.dris (KB.turned ht)⟩
theorem RtRel.step {x : Ev} {w17 w10 w22 w5 : World} {g ec' : Nat} {si so : Int} {v' : Value} (r : RtRel d h b m oc B M ⟨hh.ra, hh.rn, hh.rc, some ⟨g, 0, none⟩, hh.en, ec', hh.ca, hh.cn, hh.cc⟩ w k v wr) (hx : d.evs[k]? = some x) (hsp : x.span d.rate b m = ((si, so), 0)) (h17 : Ext wr w17) (ht : w17.mapTurned w10 M) (hM : w.heap.size ≤ M) (hmap : MapI w10 2 M (d.evs.take (k + 1)))
    (hon : Only 98 w10 w22) (he22 : Ext w w22) (hd : w22.ownsRow w.heap.size 98 3 v' (k + 1) ((retDris d.rate b m (d.evs.take k)).flatMap Dri.vals ++ [.int .i64 ((k : Int) + 1), .int .i64 (si * rTicks b - x.inn * rTicks d.rate), .int .i64 (so * rTicks b - x.out * rTicks d.rate)])) (h5 : Ext w22 w5) :
    RtRel d h b m oc B M ⟨hh.ra, hh.rn, hh.rc, some ⟨g, 0, none⟩, hh.en, ec', hh.ca, hh.cn, hh.cc⟩ w (k + 1) v' (w5.setCells g (k * 7) [.int .i64 ((k : Int) + 1), .int .i64 si, .int .i64 so]) := by
  have hat := midEvs_at (a := d.rate) (b := b) (m := m) hx
  obtain ⟨g', A', n', c', hA, hLg, hglt, hty, _⟩ := r.evs.head hat
  injection hA with hA
  injection hA with hA _ _
  subst hA
  have key : ∀ {T : TypeId}, T ≠ 98 → KB T wr w5 := fun hn => (KB.ext h17).trans ((KB.turned ht).trans ((hon.kb _ hn).trans (KB.ext h5)))
  have hty5 : Typed w5 66 g := hty.kb (key (by decide))
  have hs : Only 66 w5 (w5.setCells g (k * 7) [.int .i64 ((k : Int) + 1), .int .i64 si, .int .i64 so]) := Only.sets _ _ _ hty5
  have ke : EvsOwn w5 w.heap.size (.slice (some ⟨g, 0, none⟩) hh.en ec') hh.en (midEvs d.rate b m d.evs k) := r.evs.kb (key (by decide)) (key (by decide)) (key (by decide))
  have hev : retEv d.rate b m k x = ⟨(k : Int) + 1, si, so, x.region, x.kind, x.speaker, x.rows⟩ := by unfold retEv; rw [hsp]
  have hdr : retDri d.rate b m k x = ⟨(k : Int) + 1, si * rTicks b - x.inn * rTicks d.rate, so * rTicks b - x.out * rTicks d.rate⟩ := by unfold retDri; rw [hsp]
  refine ⟨ext_sets hLg _ _ _ (he22.trans h5), (r.doc.kb (key (by decide))).only hs (by decide), (r.zero.kb (key (by decide))).only hs (by decide), (r.out.kb (key (by decide))).only hs (by decide), own_kb (own_kb r.regs (key (by decide))) (hs.kb _ (by decide)), ?_, (hmap.km (KM.trans hon.km (Only.ext (T := 0) h5).km)).km hs.km, ?_⟩
  · rw [← midEvs_set hx, hev]
    exact ke.edit _ _ _ hat
  · rw [retDris_take hx, List.flatMap_append, hdr]
    exact own_kb (own_ext (by simpa [Dri.vals] using hd) h5) (hs.kb _ (by decide))
end
end Go.Proofs.YtagfedbdakmlgaaGreatDoor

/-! Ew -/
namespace Go.Proofs.YtagfedbdakmlgaaGreatDoor
set_option linter.unusedVariables false
set_option linter.unusedSimpArgs false
open Go.RowKit
/-- a world that is greater than W -/
structure EW (W : World) where
  w : World
  ext : Ext W w
instance ewInh (W : World) : Nonempty (EW W) := ⟨⟨W, Ext.refl W⟩⟩
theorem EW.calls {P : Program} {W : World} {f : FuncId} {args : Array Value} {v : Value} (x : EW W) (h : Calls P f args x.w fun e w' => e = .returned v ∧ Ext x.w w') :
    Calls P f args x.w fun e w'' => e = .returned v ∧ ∃ y : EW W, w'' = y.w :=
  h.mono fun _ w' ⟨he, hx⟩ => ⟨he, ⟨w', x.ext.trans hx⟩, rfl⟩
theorem EW.cell {W : World} {p : Addr} {u : Value} (h : W.cell? p = some u) (x : EW W) : x.w.cell? p = some u := x.ext.cell h
theorem EW.cells {W : World} {g : Nat} (hg : g < W.heap.size) (x : EW W) (o : Nat) : x.w.cell? ⟨g, o, none⟩ = W.cell? ⟨g, o, none⟩ := x.ext.cells _ hg
theorem wp_region_ew {P : Program} {id : Nat} {Q : Exit → Act → World → Prop} {a : Act} {w : World} {l : List Oper} (W : World) (hW : Ext W w) (hm : P.follows .mixedOrders = true) (hB : Region.lexB .any l.toArray = true)
    (h : wpQuiet P l.toArray (fun w' => ∃ x : EW W, w' = x.w) (fun a' => ∀ w', (∃ x : EW W, w' = x.w) → Q .normal a' w') l a) : (Code.region id l.toArray true).wp P Q a w :=
  wp_region_quiet (C := fun w' => ∃ x : EW W, w' = x.w) hm hB ⟨⟨{ w with drawn := w.drawn + 1 }, hW.drew⟩, rfl⟩ (by simpa using h)
end Go.Proofs.YtagfedbdakmlgaaGreatDoor

/-! DClR -/
namespace Go.Proofs.YtagfedbdakmlgaaGreatDoor
set_option linter.unusedVariables false
set_option linter.unusedSimpArgs false
open Go.RowKit
theorem own_uniq {w : World} {L : Nat} {e : TypeId} {size : Nat} {v : Value} {n : Nat} {xs ys : List Value} (h : w.ownsRow L e size v n xs) (k : w.ownsRow L e size v n ys) : ys = xs := by
  rcases h.2 with ⟨rfl, rfl⟩ | ⟨g, cap, cur, rfl, _, hb, _, _, _, hx⟩
  · have h1 := h.1
    have h2 := k.1
    rw [Nat.zero_mul] at h1 h2
    rw [List.eq_nil_of_length_eq_zero h1, List.eq_nil_of_length_eq_zero h2]
  · rcases k.2 with ⟨e1, _⟩ | ⟨g', cap', cur', e1, _, hb', _, _, _, hx'⟩
    · cases e1
    · cases e1
      rw [hb] at hb'
      cases hb'
      rw [← hx, ← hx']
theorem own_isSlice {w : World} {L : Nat} {e : TypeId} {size : Nat} {v : Value} {n : Nat} {xs : List Value} (h : w.ownsRow L e size v n xs) : ∃ A c, v = .slice A n c := by
  rcases h.2 with ⟨rfl, rfl⟩ | ⟨g, cap, cur, rfl, _⟩
  · exact ⟨none, 0, rfl⟩
  · exact ⟨_, _, rfl⟩
/-- an event is appended to events of one's own -/
theorem EvsOwn.push {w w1 : World} {L k : Nat} {v v' : Value} {l : List Ev} {e : Ev} {hs : List EH} {A' : Option Addr} {n' c' : Nat} (h1 : w.ownsRow L 66 7 v k (hs.flatMap EH.vals)) (h : EvsOwn w L v k l) (hg : EGood w L (EH.of e A' n' c') e) (hgr : w.grownBy w1 v.ownBlock)
    (hO : w1.ownsRow L 66 7 v' (k + 1) (hs.flatMap EH.vals ++ (e.cells A' n' c').toList)) : EvsOwn w1 L v' (k + 1) (l ++ [e]) :=
  h.snoc hg hgr fun xs hx => by rw [own_uniq h1 hx]; exact hO
theorem EvsOwn.heads {w : World} {L n : Nat} {v : Value} {l : List Ev} (h : EvsOwn w L v n l) : ∃ hs : List EH, w.ownsRow L 66 7 v n (hs.flatMap EH.vals) := h.elim fun hs h => ⟨hs, h.1⟩
structure R12ClRel (d : Doc) (cs : Array Value) (rn cn : Nat) (w : World) (v1 v2 : Value) (k : Nat) (v : Value) (wr : World) : Prop where
  ext : Ext w wr
  doc : Blk wr w.heap.size 27 cs
  zero : Blk wr (w.heap.size + 1) 27 docZero
  regs : wr.ownsRow w.heap.size 94 7 v1 rn (d.regs.flatMap Reg.vals)
  coms : wr.ownsRow w.heap.size 78 8 v2 cn (d.coms.flatMap Com.vals)
  evs : EvsOwn wr w.heap.size v k (d.evs.take k)
def R12ClLoop (d : Doc) (cs : Array Value) (rn cn n : Nat) (w : World) (v1 v2 v i : Value) (wr : World) : Prop := ∃ k : Nat, k ≤ n ∧ i = .int .i64 k ∧ R12ClRel d cs rn cn w v1 v2 k v wr
section
variable {d : Doc} {cs : Array Value} {rn cn k : Nat} {w wr w1 w2 : World} {v1 v2 v v' : Value}
theorem R12ClRel.grow (r : R12ClRel d cs rn cn w v1 v2 k v wr) (hx : Ext wr w1) : R12ClRel d cs rn cn w v1 v2 k v w1 :=
  ⟨r.ext.trans hx, r.doc.ext hx, r.zero.ext hx, own_ext r.regs hx, own_ext r.coms hx, r.evs.ext hx⟩
theorem R12ClRel.step {e : Ev} {hs : List EH} {A' : Option Addr} {n' c' : Nat} (r : R12ClRel d cs rn cn w v1 v2 k v wr) (he : d.evs[k]? = some e) (h1 : wr.ownsRow w.heap.size 66 7 v k (hs.flatMap EH.vals)) (hg : EGood wr w.heap.size (EH.of e A' n' c') e) (hgr : wr.grownBy w2 v.ownBlock)
    (hO : w2.ownsRow w.heap.size 66 7 v' (k + 1) (hs.flatMap EH.vals ++ (e.cells A' n' c').toList)) : R12ClRel d cs rn cn w v1 v2 (k + 1) v' w2 := by
  have hty := own_typed h1
  refine ⟨r.ext.grown hgr (fun q hq => own_lt h1 q hq), r.doc.kb (KB.grown hgr hty (by decide)), r.zero.kb (KB.grown hgr hty (by decide)), own_kb r.regs (KB.grown hgr hty (by decide)), own_kb r.coms (KB.grown hgr hty (by decide)), ?_⟩
  rw [take_snoc' d.evs k e he]
  exact r.evs.push h1 hg hgr hO
end
end Go.Proofs.YtagfedbdakmlgaaGreatDoor

/-! AddP -/
namespace Go.Proofs.YtagfedbdakmlgaaGreatDoor
set_option linter.unusedVariables false
set_option linter.unusedSimpArgs false
open Go.RowKit
def Doc.addErr (d : Doc) (id fr til : Int) (au tx : ByteArray) : Int :=
  if d.err ≠ 0 then d.err else match findE d.evs id with
    | none => 6
    | some k => if fr < 0 ∨ til ≤ fr ∨ (d.evs[k]?.map fun e => decide (e.len < til)) = some true then 2 else if nameB au = false then 5 else if vld tx = false then 10 else if tx.toList.isEmpty = true then 4 else
      if 400 < tx.size ∨ 64 ≤ d.coms.length ∨ 1099511627776 ≤ d.last then 9 else 0
def Doc.addD (d : Doc) (id fr til : Int) (au tx : ByteArray) : Doc := ⟨d.title, d.lang, d.rate, d.drop, d.last + 1, d.regs, d.evs, d.coms ++ [⟨d.last + 1, id, fr, til, au, tx, false, false⟩]⟩
def Doc.added (d : Doc) (id fr til : Int) (au tx : ByteArray) : Doc := if d.addErr id fr til au tx = 0 then d.addD id fr til au tx else Doc.zero
def Doc.addId (d : Doc) (id fr til : Int) (au tx : ByteArray) : Int := if d.addErr id fr til au tx = 0 then d.last + 1 else 0
def AddPost (d : Doc) (id fr til : Int) (au tx : ByteArray) (w : World) (en : Ending) (w' : World) : Prop :=
  ∃ h', en = .returned (.tuple #[.agg ((d.added id fr til au tx).cells h'), .int .i64 (d.addId id fr til au tx), .int .i64 (d.addErr id fr til au tx)]) ∧ DocOwn w' w.heap.size (d.added id fr til au tx) h' ∧ Ext w w'
theorem docZero_own (w : World) (L : Nat) : DocOwn w L Doc.zero docH0 := ⟨⟨rfl, .inl ⟨rfl, rfl⟩⟩, rfl, EvsOwn.nil _ _, ⟨rfl, .inl ⟨rfl, rfl⟩⟩, rfl⟩
theorem addPost_err {d : Doc} {id fr til e : Int} {au tx : ByteArray} {w w' : World} (he : d.addErr id fr til au tx = e) (h0 : e ≠ 0) (hx : Ext w w') : AddPost d id fr til au tx w (.returned (.tuple #[.agg docZero, .int .i64 0, .int .i64 e])) w' := by
  have h1 : d.added id fr til au tx = Doc.zero := by unfold Doc.added; rw [if_neg (by rw [he]; exact h0)]
  have h2 : d.addId id fr til au tx = 0 := by unfold Doc.addId; rw [if_neg (by rw [he]; exact h0)]
  exact ⟨docH0, by rw [h1, h2, docZero_cells, he], by rw [h1]; exact docZero_own _ _, hx⟩
section
variable {d : Doc} {id fr til : Int} {au tx : ByteArray} {k : Nat} {x : Ev}
theorem add_1 (h : d.err ≠ 0) : d.addErr id fr til au tx = d.err := by unfold Doc.addErr; rw [if_pos h]
theorem add_2 (h : d.err = 0) (h2 : findE d.evs id = none) : d.addErr id fr til au tx = 6 := by unfold Doc.addErr; rw [if_neg (by simpa using h), h2]
theorem add_r (h : d.err = 0) (h2 : findE d.evs id = some k) (hx : d.evs[k]? = some x) : d.addErr id fr til au tx =
    if fr < 0 ∨ til ≤ fr ∨ x.len < til then 2 else if nameB au = false then 5 else if vld tx = false then 10 else if tx.toList.isEmpty = true then 4 else if 400 < tx.size ∨ 64 ≤ d.coms.length ∨ 1099511627776 ≤ d.last then 9 else 0 := by
  unfold Doc.addErr
  rw [if_neg (by simpa using h), h2]
  simp only [hx, Option.map_some, Option.some.injEq, decide_eq_true_eq]
end
/-- a document is loaded and stored as a result, at whatever time -/
structure RdJ (g : Nat) (cs : Array Value) (W : World) (us : List Value) (w' : World) : Prop where
  any : (us = [] ∧ Ext W w') ∨ (us ≠ [] ∧ ∃ w5, Ext W w5 ∧ w' = putB w5 g 27 cs)
theorem RdJ.start (g : Nat) (cs : Array Value) (W : World) : RdJ g cs W [] W.drew := ⟨.inl ⟨rfl, (Ext.refl W).drew⟩⟩
theorem RdJ.nil {g : Nat} {cs : Array Value} {W w' : World} (h : RdJ g cs W [] w') : Ext W w' := by
  rcases h.any with ⟨_, h⟩ | ⟨h, _⟩
  · exact h
  · exact absurd rfl h
theorem RdJ.one {g : Nat} {cs : Array Value} {W w' : World} {u : Value} (h : RdJ g cs W [u] w') : ∃ w5, Ext W w5 ∧ w' = putB w5 g 27 cs := by
  rcases h.any with ⟨h, _⟩ | ⟨_, h⟩
  · cases h
  · exact h
theorem RdJ.blk {g b : Nat} {T : TypeId} {cs cs' : Array Value} {W w' : World} {us : List Value} (h : RdJ g cs W us w') (hB : Blk W b T cs') (hne : b ≠ g) : Blk w' b T cs' := by
  rcases h.any with ⟨_, hx⟩ | ⟨_, w5, hx, rfl⟩
  · exact hB.ext hx
  · exact (hB.ext hx).put_other (Ne.symm hne) _
theorem RdJ.blk_nil {g b : Nat} {T : TypeId} {cs cs' : Array Value} {W w' : World} (h : RdJ g cs W [] w') (hB : Blk W b T cs') : Blk w' b T cs' := hB.ext h.nil
theorem RdJ.store {g : Nat} {cs : Array Value} {W w' : World} {u : Value} (h : RdJ g cs W [] w') : RdJ g cs W ([] ++ [u]) (putB w' g 27 cs) := ⟨.inr ⟨by simp, w', h.nil, rfl⟩⟩
end Go.Proofs.YtagfedbdakmlgaaGreatDoor
