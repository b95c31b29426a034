/- Laid together: The walk of region.Place. The walk of region.Find. Events in memory, and the walks of event.lens, Frames, Len. The walks of event.Frames, Len, Plain. The walks of event.Spots and event.Check. -/
import Derived.Test.YtagfedbdakmlgaaGreatDoorPk02
import Derived.Test.YtagfedbdakmlgaaGreatDoorPk01
import Derived.Lib.Join

/-! Place -/
namespace Go.Proofs.YtagfedbdakmlgaaGreatDoor
set_option linter.unusedVariables false
set_option linter.unusedSimpArgs false
open Go.RowKit

def IntsAt (w : World) (A : Option Addr) (n : Nat) (l : List Int) : Prop := Sl w 1 (Cells fun x => [.int .i64 x]) A n l
theorem IntsAt.ext {w w1 : World} {A : Option Addr} {n : Nat} {l : List Int} (h : IntsAt w A n l) (k : Ext w w1) : IntsAt w1 A n l := Sl.ext (Cells.stays _) h k
theorem IntsAt.cell {w : World} {A : Option Addr} {n : Nat} {l : List Int} (h : IntsAt w A n l) {i : Nat} (hi : i < n) : ∃ b off x, A = some ⟨b, off, none⟩ ∧ l[i]? = some x ∧ w.cell? ⟨b, off + i, none⟩ = some (.int .i64 x) := by
  obtain ⟨b, off, x, hA, hx, hc⟩ := h.at_ hi
  exact ⟨b, off, x, hA, hx, by simpa using hc 0 (.int .i64 x) rfl⟩

structure Spot where
  row : Int
  col : Int
  len : Int
  deriving DecidableEq
def Spot.cells (s : Spot) : List Value := [.int .i64 s.row, .int .i64 s.col, .int .i64 s.len]
def Spot.val (s : Spot) : Value := .agg s.cells.toArray
def SpotsAt (w : World) (A : Option Addr) (n : Nat) (l : List Spot) : Prop := Sl w 3 (Cells Spot.cells) A n l

def Reg.spot (r : Reg) (top : Int) (i : Nat) (n : Int) : Spot := ⟨top + i, if r.align = 3 then r.left + (r.width - n) else if r.align = 2 then r.left + (r.width - n) / 2 else r.left, n⟩
def Reg.spots (r : Reg) (top : Int) : Nat → List Int → List Spot
  | _, [] => []
  | i, n :: l => r.spot top i n :: r.spots top (i + 1) l
def Reg.lensErr (r : Reg) : List Int → Int
  | [] => 0
  | n :: l => if n < 0 then 2 else if r.width < n then 11 else r.lensErr l
def Reg.top' (r : Reg) (n : Nat) : Int := if r.bottom then r.top + (r.height - n) else r.top
/-- the cells of rows of these lengths, and the error -/
def Reg.place (r : Reg) (lens : List Int) : Int := if r.usable = false then 1 else if r.height < lens.length then 9 else r.lensErr lens

theorem spots_snoc (r : Reg) (top : Int) : ∀ (l : List Int) (i : Nat) (n : Int), r.spots top i (l ++ [n]) = r.spots top i l ++ [r.spot top (i + l.length) n]
  | [], i, n => by simp [Reg.spots]
  | a :: l, i, n => by
    simp only [List.cons_append, Reg.spots, spots_snoc r top l (i + 1) n, List.length_cons]
    rw [show i + 1 + l.length = i + (l.length + 1) by omega]
theorem spots_len (r : Reg) (top : Int) : ∀ (l : List Int) (i : Nat), (r.spots top i l).length = l.length
  | [], i => rfl
  | a :: l, i => by simp [Reg.spots, spots_len r top l (i + 1)]
theorem lensErr_drop (r : Reg) (l : List Int) (k : Nat) (x : Int) (hx : l[k]? = some x) : r.lensErr (l.drop k) = if x < 0 then 2 else if r.width < x then 11 else r.lensErr (l.drop (k + 1)) := by
  have hkl := (List.getElem?_eq_some_iff.1 hx).1
  rw [List.drop_eq_getElem_cons hkl, (List.getElem?_eq_some_iff.1 hx).2]
  rfl
/-- the bounds of a region that can be used -/
theorem usable_bounds {r : Reg} (h : r.usable = true) : (0 ≤ r.top ∧ r.top ≤ 14) ∧ (1 ≤ r.height ∧ r.height ≤ 15) ∧ (0 ≤ r.left ∧ r.left ≤ 31) ∧ (1 ≤ r.width ∧ r.width ≤ 32) := by
  unfold Reg.usable at h
  rcases of_decide_eq_true h with h | h
  · subst h; decide
  · unfold Reg.check at h
    split at h
    · omega
    · split at h
      · omega
      · rename_i h1 h2
        have h2' : r.inGrid := by simpa using h2
        unfold Reg.inGrid at h2'
        omega

def PlaceRelI (w : World) (bx : Array Value) (r : Reg) (top : Int) (n : Nat) (lens : List Int) (v i : Value) (wr : World) : Prop :=
  ∃ k : Nat, k ≤ n ∧ i = .int .i64 k ∧ Ext (w.alloc (.cells bx 94)) wr ∧ r.lensErr lens = r.lensErr (lens.drop k) ∧
    wr.ownsRow (w.heap.size + 1) 204 3 v k ((r.spots top 0 (lens.take k)).flatMap Spot.cells)

theorem info_spot : (Tryz.prog.info? 204).map (fun i => (i.zero, i.size, i.bytes)) = some (some (.agg #[.int .i64 0, .int .i64 0, .int .i64 0]), 3, 24) := by kernel_rfl

/-- what Place returns -/
def PlacePost (r : Reg) (lens : List Int) (w : World) (e : Ending) (w' : World) : Prop :=
  ∃ A n c, e = .returned (.tuple #[.slice A n c, .int .i64 (r.place lens)]) ∧ SpotsAt w' A n (if r.place lens = 0 then r.spots (r.top' lens.length) 0 lens else []) ∧ n ≤ c ∧ Ext w w'

theorem placePost_err {r : Reg} {lens : List Int} {w w' : World} {e : Ending} {k : Int} (hk : r.place lens = k) (h0 : k ≠ 0) (he : e = .returned (.tuple #[.slice none 0 0, .int .i64 k])) (hx : Ext w w') : PlacePost r lens w e w' :=
  ⟨none, 0, 0, by rw [hk]; exact he, by rw [if_neg (by rw [hk]; exact h0)]; exact Sl.nil, Nat.le_refl _, hx⟩

theorem placePost_ok {r : Reg} {lens : List Int} {w w' : World} {v : Value} {n base : Nat} {top : Int} (h0 : r.place lens = 0) (ht : r.top' lens.length = top)
    (hown : w'.ownsRow base 204 3 v n ((r.spots top 0 lens).flatMap Spot.cells)) (hn : lens.length = n) (hx : Ext w w') : PlacePost r lens w (.returned (.tuple #[v, .int .i64 0])) w' := by
  have hl : (r.spots top 0 lens).length = n := by rw [spots_len, hn]
  obtain ⟨A, c, rfl, hc, _, hsl, _⟩ := own_sl (f := Spot.cells) (size := 3) (fun _ => rfl) hl hown
  exact ⟨A, n, c, by rw [h0], by rw [if_pos h0, ht]; exact hsl, hc, hx⟩

set_option maxRecDepth 100000 in
set_option maxHeartbeats 4000000 in
theorem Place_any (r : Reg) (A : Option Addr) (n c : Nat) (lens : List Int) (w : World) (hs : r.name.size ≤ 9223372036854775807) (hl : IntsAt w A n lens) (hn : n ≤ 9223372036854775807) :
    Calls Tryz.prog 144 #[r.val, .slice A n c] w (PlacePost r lens w) := by
  have hU := fun w => usable_any r w hs
  have hlen := hl.len
  cases hu : r.usable
  · have HP : Hid (r.place lens = 1) := by show r.place lens = 1; unfold Reg.place; rw [if_pos hu]
    have HU := Lib.hid hU
    have Hu := Lib.hid hu
    clear hU hu hlen hl
    obtain ⟨nm, top, hgt, lft, wid, al, bot⟩ := r
    unfold Reg.val at HU ⊢
    dsimp only at HU ⊢
    go_enter Tryz.func144, Tryz.ntmps144
    go_wp2_with fail
    refine (HU.out _).mono ?_
    rintro e w1 ⟨rfl, hx1⟩
    rw [Hu.out]
    go_wp2_with fail
    go_ret2
    exact placePost_err HP.out (by decide) rfl (((Ext.refl w).alloc _).trans hx1)
  · have hb := usable_bounds hu
    obtain ⟨⟨ht0, ht1⟩, ⟨hh0, hh1⟩, ⟨hl0, hl1⟩, ⟨hw0, hw1⟩⟩ := hb
    by_cases hgt9 : r.height < n
    · have HP : Hid (r.place lens = 9) := by show r.place lens = 9; unfold Reg.place; rw [if_neg (by rw [hu]; simp), if_pos (by rw [hlen]; exact hgt9)]
      have HU := Lib.hid hU
      have Hu := Lib.hid hu
      clear hU hu hlen hl
      obtain ⟨nm, top, hgt, lft, wid, al, bot⟩ := r
      unfold Reg.val at HU ⊢
      dsimp only at *
      go_enter Tryz.func144, Tryz.ntmps144
      go_wp2_with fail
      refine (HU.out _).mono ?_
      rintro e w1 ⟨rfl, hx1⟩
      rw [Hu.out]
      have hc := hx1.bcell.1 w.heap.size
      simp at hc
      go_wp2_with fail
      go_ret2
      exact placePost_err HP.out (by decide) rfl (((Ext.refl w).alloc _).trans hx1)
    · have hnh : (n : Int) ≤ r.height := by omega
      have hn15 : n ≤ 15 := by omega
      have HP : Hid (r.place lens = r.lensErr lens) := by show r.place lens = _; unfold Reg.place; rw [if_neg (by rw [hu]; simp), if_neg (by rw [hlen]; omega)]
      have HLn := Lib.hid hlen
      have HL := Lib.hid hl
      have HU := Lib.hid hU
      have Hu := Lib.hid hu
      clear hU hu hlen hl hgt9
      obtain ⟨i0, hi0, hz0, hz1, hz2⟩ := info_parts info_spot
      obtain ⟨nm, top, hgt, lft, wid, al, bot⟩ := r
      unfold Reg.val at HU ⊢
      dsimp only at *
      cases bot
      · go_enter Tryz.func144, Tryz.ntmps144
        go_wp2_with fail
        refine (HU.out _).mono ?_
        rintro e w1 ⟨rfl, hx1⟩
        rw [Hu.out]
        have hc := hx1.bcell.1 w.heap.size
        simp at hc
        go_wp2_with fail
        clear hc
        go_loopw [7, 34] (fun v i wr => PlaceRelI w #[.string nm, .int .i64 top, .int .i64 hgt, .int .i64 lft, .int .i64 wid, .int .u8 al, .bool false] ⟨nm, top, hgt, lft, wid, al, false⟩ top n lens v i wr) (fun _ i _ => n - (intOf i).toNat)
        case atStart => exact ⟨0, Nat.zero_le _, rfl, hx1, rfl, ⟨by simp [Reg.spots], .inl ⟨rfl, rfl⟩⟩⟩
        case round =>
          obtain ⟨k, hk, rfl, hx, hp, hown⟩ := hrel
          have HPr := Lib.hid hp
          clear hp
          have hB := Lib.hid (Blk.ext (Blk.new w _ _) hx)
          have hxw : Ext w wr := ((Ext.refl w).alloc _).trans hx
          have hc := fun o => hB.out.cell o
          have hsz : w.heap.size < wr.heap.size := hB.out.lt
          have hne : w.heap.size ≠ wr.heap.size := by omega
          by_cases hlt : k < n
          · obtain ⟨b, off, x, rfl, hxx, hcell⟩ := (HL.out.ext hxw).cell hlt
            have HX := Lib.hid hxx
            have HE := Lib.hid (lensErr_drop ⟨nm, top, hgt, lft, wid, al, false⟩ lens k x hxx)
            have HT := Lib.hid (take_snoc' lens k x hxx)
            have hkl : Hid ((lens.take k).length = k) := by show (lens.take k).length = k; rw [List.length_take, HLn.out]; omega
            clear hxx
            by_cases hneg : x < 0
            · go_wp2_with fail
              go_ret2
              exact placePost_err (k := 2) (by rw [HP.out, HPr.out, HE.out, if_pos (by omega)]) (by decide) rfl hxw
            · by_cases hwide : wid < x
              · go_wp2_with fail
                go_ret2
                exact placePost_err (k := 11) (by rw [HP.out, HPr.out, HE.out, if_neg (by omega), if_pos (by omega)]) (by decide) rfl hxw
              · have HS := Lib.hid (spots_snoc ⟨nm, top, hgt, lft, wid, al, false⟩ top (lens.take k) 0 x)
                have hE2 : Hid (Reg.lensErr ⟨nm, top, hgt, lft, wid, al, false⟩ lens = Reg.lensErr ⟨nm, top, hgt, lft, wid, al, false⟩ (lens.drop (k + 1))) := by
                  show _ = _
                  rw [HPr.out, HE.out, if_neg (by omega), if_neg (by omega)]
                by_cases ha3 : (al == 3) = true
                · have hal : al = 3 := by simpa using ha3
                  have HSp : Hid (Reg.spot ⟨nm, top, hgt, lft, wid, al, false⟩ top (0 + (lens.take k).length) x = ⟨top + k, lft + (wid - x), x⟩) := by
                    show _ = _
                    rw [hkl.out]; unfold Reg.spot; simp [hal]
                  clear hal
                  go_wp2_with (at_builtin; refine wpList_append1 rfl (.tmp 75) (.tmp 77) 161 rfl info_spot Tryz.underlying161 rfl (by decide) ((hown.alloc _).alloc _) (by exact rfl) (wr.heap.size + 1) _ (by exact rfl) (by exact Blk.new' (by simp)) (by exact rfl) (by simp [Value.oneCell']) (by omega) (by simp [maxLen]; omega) (by simp; omega) ?_; intro v' w' hown' hgr)
                  refine ⟨⟨k + 1, by omega, by go_num, ((hx.alloc _).alloc _).grown hgr (fun q hq => by have := own_lt hown q hq; simpa using this), hE2.out, ?_⟩, by simp [intOf]; omega⟩
                  rw [HT.out, HS.out, List.flatMap_append, HSp.out]
                  exact hown'
                · have ha3' : (al == 3) = false := by simpa using ha3
                  clear ha3
                  have hn3 : ¬ al = 3 := by simpa using ha3'
                  by_cases ha2 : (al == 2) = true
                  · have hal : al = 2 := by simpa using ha2
                    have HSp : Hid (Reg.spot ⟨nm, top, hgt, lft, wid, al, false⟩ top (0 + (lens.take k).length) x = ⟨top + k, lft + (wid - x) / 2, x⟩) := by
                      show _ = _
                      rw [hkl.out]; unfold Reg.spot; simp [hal]
                    clear hal hn3
                    go_wp2_with (at_builtin; refine wpList_append1 rfl (.tmp 75) (.tmp 77) 161 rfl info_spot Tryz.underlying161 rfl (by decide) ((hown.alloc _).alloc _) (by exact rfl) (wr.heap.size + 1) _ (by exact rfl) (by exact Blk.new' (by simp)) (by exact rfl) (by simp [Value.oneCell']) (by omega) (by simp [maxLen]; omega) (by simp; omega) ?_; intro v' w' hown' hgr)
                    refine ⟨⟨k + 1, by omega, by go_num, ((hx.alloc _).alloc _).grown hgr (fun q hq => by have := own_lt hown q hq; simpa using this), hE2.out, ?_⟩, by simp [intOf]; omega⟩
                    rw [HT.out, HS.out, List.flatMap_append, HSp.out]
                    exact hown'
                  · have ha2' : (al == 2) = false := by simpa using ha2
                    clear ha2
                    have hn2 : ¬ al = 2 := by simpa using ha2'
                    have HSp : Hid (Reg.spot ⟨nm, top, hgt, lft, wid, al, false⟩ top (0 + (lens.take k).length) x = ⟨top + k, lft, x⟩) := by
                      show _ = _
                      rw [hkl.out]; unfold Reg.spot; simp [hn3, hn2]
                    clear hn2 hn3
                    go_wp2_with (at_builtin; refine wpList_append1 rfl (.tmp 75) (.tmp 77) 161 rfl info_spot Tryz.underlying161 rfl (by decide) ((hown.alloc _).alloc _) (by exact rfl) (wr.heap.size + 1) _ (by exact rfl) (by exact Blk.new' (by simp)) (by exact rfl) (by simp [Value.oneCell']) (by omega) (by simp [maxLen]; omega) (by simp; omega) ?_; intro v' w' hown' hgr)
                    refine ⟨⟨k + 1, by omega, by go_num, ((hx.alloc _).alloc _).grown hgr (fun q hq => by have := own_lt hown q hq; simpa using this), hE2.out, ?_⟩, by simp [intOf]; omega⟩
                    rw [HT.out, HS.out, List.flatMap_append, HSp.out]
                    exact hown'
          · have hkn : k = n := by omega
            subst hkn
            have HD : Hid (lens.drop k = []) := List.drop_eq_nil_of_le (by rw [HLn.out]; omega)
            have HTk : Hid (lens.take k = lens) := List.take_of_length_le (by rw [HLn.out]; omega)
            have HO := Lib.hid hown
            clear hown
            go_wp2_with fail
            go_ret2
            exact placePost_ok (by rw [HP.out, HPr.out, HD.out]; rfl) (by rw [HLn.out]; rfl) (HTk.out ▸ HO.out) (by rw [HLn.out]) hxw
      · go_enter Tryz.func144, Tryz.ntmps144
        go_wp2_with fail
        refine (HU.out _).mono ?_
        rintro e w1 ⟨rfl, hx1⟩
        rw [Hu.out]
        have hc := hx1.bcell.1 w.heap.size
        simp at hc
        go_wp2_with fail
        clear hc
        go_loopw [7, 34] (fun v i wr => PlaceRelI w #[.string nm, .int .i64 top, .int .i64 hgt, .int .i64 lft, .int .i64 wid, .int .u8 al, .bool true] ⟨nm, top, hgt, lft, wid, al, true⟩ (top + (hgt - n)) n lens v i wr) (fun _ i _ => n - (intOf i).toNat)
        case atStart => exact ⟨0, Nat.zero_le _, rfl, hx1, rfl, ⟨by simp [Reg.spots], .inl ⟨rfl, rfl⟩⟩⟩
        case round =>
          obtain ⟨k, hk, rfl, hx, hp, hown⟩ := hrel
          have HPr := Lib.hid hp
          clear hp
          have hB := Lib.hid (Blk.ext (Blk.new w _ _) hx)
          have hxw : Ext w wr := ((Ext.refl w).alloc _).trans hx
          have hc := fun o => hB.out.cell o
          have hsz : w.heap.size < wr.heap.size := hB.out.lt
          have hne : w.heap.size ≠ wr.heap.size := by omega
          by_cases hlt : k < n
          · obtain ⟨b, off, x, rfl, hxx, hcell⟩ := (HL.out.ext hxw).cell hlt
            have HX := Lib.hid hxx
            have HE := Lib.hid (lensErr_drop ⟨nm, top, hgt, lft, wid, al, true⟩ lens k x hxx)
            have HT := Lib.hid (take_snoc' lens k x hxx)
            have hkl : Hid ((lens.take k).length = k) := by show (lens.take k).length = k; rw [List.length_take, HLn.out]; omega
            clear hxx
            by_cases hneg : x < 0
            · go_wp2_with fail
              go_ret2
              exact placePost_err (k := 2) (by rw [HP.out, HPr.out, HE.out, if_pos (by omega)]) (by decide) rfl hxw
            · by_cases hwide : wid < x
              · go_wp2_with fail
                go_ret2
                exact placePost_err (k := 11) (by rw [HP.out, HPr.out, HE.out, if_neg (by omega), if_pos (by omega)]) (by decide) rfl hxw
              · have HS := Lib.hid (spots_snoc ⟨nm, top, hgt, lft, wid, al, true⟩ (top + (hgt - n)) (lens.take k) 0 x)
                have hE2 : Hid (Reg.lensErr ⟨nm, top, hgt, lft, wid, al, true⟩ lens = Reg.lensErr ⟨nm, top, hgt, lft, wid, al, true⟩ (lens.drop (k + 1))) := by
                  show _ = _
                  rw [HPr.out, HE.out, if_neg (by omega), if_neg (by omega)]
                by_cases ha3 : (al == 3) = true
                · have hal : al = 3 := by simpa using ha3
                  have HSp : Hid (Reg.spot ⟨nm, top, hgt, lft, wid, al, true⟩ (top + (hgt - n)) (0 + (lens.take k).length) x = ⟨top + (hgt - n) + k, lft + (wid - x), x⟩) := by
                    show _ = _
                    rw [hkl.out]; unfold Reg.spot; simp [hal]
                  clear hal
                  go_wp2_with (at_builtin; refine wpList_append1 rfl (.tmp 75) (.tmp 77) 161 rfl info_spot Tryz.underlying161 rfl (by decide) ((hown.alloc _).alloc _) (by exact rfl) (wr.heap.size + 1) _ (by exact rfl) (by exact Blk.new' (by simp)) (by exact rfl) (by simp [Value.oneCell']) (by omega) (by simp [maxLen]; omega) (by simp; omega) ?_; intro v' w' hown' hgr)
                  refine ⟨⟨k + 1, by omega, by go_num, ((hx.alloc _).alloc _).grown hgr (fun q hq => by have := own_lt hown q hq; simpa using this), hE2.out, ?_⟩, by simp [intOf]; omega⟩
                  rw [HT.out, HS.out, List.flatMap_append, HSp.out]
                  exact hown'
                · have ha3' : (al == 3) = false := by simpa using ha3
                  clear ha3
                  have hn3 : ¬ al = 3 := by simpa using ha3'
                  by_cases ha2 : (al == 2) = true
                  · have hal : al = 2 := by simpa using ha2
                    have HSp : Hid (Reg.spot ⟨nm, top, hgt, lft, wid, al, true⟩ (top + (hgt - n)) (0 + (lens.take k).length) x = ⟨top + (hgt - n) + k, lft + (wid - x) / 2, x⟩) := by
                      show _ = _
                      rw [hkl.out]; unfold Reg.spot; simp [hal]
                    clear hal hn3
                    go_wp2_with (at_builtin; refine wpList_append1 rfl (.tmp 75) (.tmp 77) 161 rfl info_spot Tryz.underlying161 rfl (by decide) ((hown.alloc _).alloc _) (by exact rfl) (wr.heap.size + 1) _ (by exact rfl) (by exact Blk.new' (by simp)) (by exact rfl) (by simp [Value.oneCell']) (by omega) (by simp [maxLen]; omega) (by simp; omega) ?_; intro v' w' hown' hgr)
                    refine ⟨⟨k + 1, by omega, by go_num, ((hx.alloc _).alloc _).grown hgr (fun q hq => by have := own_lt hown q hq; simpa using this), hE2.out, ?_⟩, by simp [intOf]; omega⟩
                    rw [HT.out, HS.out, List.flatMap_append, HSp.out]
                    exact hown'
                  · have ha2' : (al == 2) = false := by simpa using ha2
                    clear ha2
                    have hn2 : ¬ al = 2 := by simpa using ha2'
                    have HSp : Hid (Reg.spot ⟨nm, top, hgt, lft, wid, al, true⟩ (top + (hgt - n)) (0 + (lens.take k).length) x = ⟨top + (hgt - n) + k, lft, x⟩) := by
                      show _ = _
                      rw [hkl.out]; unfold Reg.spot; simp [hn3, hn2]
                    clear hn2 hn3
                    go_wp2_with (at_builtin; refine wpList_append1 rfl (.tmp 75) (.tmp 77) 161 rfl info_spot Tryz.underlying161 rfl (by decide) ((hown.alloc _).alloc _) (by exact rfl) (wr.heap.size + 1) _ (by exact rfl) (by exact Blk.new' (by simp)) (by exact rfl) (by simp [Value.oneCell']) (by omega) (by simp [maxLen]; omega) (by simp; omega) ?_; intro v' w' hown' hgr)
                    refine ⟨⟨k + 1, by omega, by go_num, ((hx.alloc _).alloc _).grown hgr (fun q hq => by have := own_lt hown q hq; simpa using this), hE2.out, ?_⟩, by simp [intOf]; omega⟩
                    rw [HT.out, HS.out, List.flatMap_append, HSp.out]
                    exact hown'
          · have hkn : k = n := by omega
            subst hkn
            have HD : Hid (lens.drop k = []) := List.drop_eq_nil_of_le (by rw [HLn.out]; omega)
            have HTk : Hid (lens.take k = lens) := List.take_of_length_le (by rw [HLn.out]; omega)
            have HO := Lib.hid hown
            clear hown
            go_wp2_with fail
            go_ret2
            exact placePost_ok (by rw [HP.out, HPr.out, HD.out]; rfl) (by rw [HLn.out]; rfl) (HTk.out ▸ HO.out) (by rw [HLn.out]) hxw
end Go.Proofs.YtagfedbdakmlgaaGreatDoor

/-! Find -/
namespace Go.Proofs.YtagfedbdakmlgaaGreatDoor
set_option linter.unusedVariables false
set_option linter.unusedSimpArgs false
open Go.RowKit

def RegsAt (w : World) (A : Option Addr) (n : Nat) (l : List Reg) : Prop := Sl w 7 RegC A n l
theorem RegsAt.ext {w w1 : World} {A : Option Addr} {n : Nat} {l : List Reg} (h : RegsAt w A n l) (k : Ext w w1) : RegsAt w1 A n l := Sl.ext RegC.stays h k

def findR (l : List Reg) (nm : ByteArray) : Option Reg := if nm.toList = [] then some Reg.default else l.find? (fun r => r.name.toList == nm.toList)

def regZero : Array Value := #[.string ⟨#[]⟩, .int .i64 0, .int .i64 0, .int .i64 0, .int .i64 0, .int .u8 0, .bool false]

def FindRel (w : World) (A : Option Addr) (n : Nat) (l : List Reg) (nm : ByteArray) (i : Value) (wr : World) : Prop :=
  ∃ k : Nat, k ≤ n ∧ i = .int .i64 k ∧ Ext (w.alloc (.cells regZero 94)) wr ∧ l.find? (fun r => r.name.toList == nm.toList) = (l.drop k).find? (fun r => r.name.toList == nm.toList)

theorem info_reg : (Tryz.prog.info? 94).map (·.size) = some 7 := by kernel_rfl

theorem find_ret {w' : World} {g : Nat} {r : Reg} {b : Bool} {tmps : Array Value} (hB : Blk w' g 94 #[.string r.name, .int .i64 r.top, .int .i64 r.height, .int .i64 r.left, .int .i64 r.width, .int .u8 r.align, .bool r.bottom])
    (h4 : tmps.getD 4 undef = .pointer (some ⟨g, 0, none⟩)) (h5 : tmps.getD 5 undef = .bool b) : (results Tryz.f140 tmps).run Tryz.prog w' = .ok (.tuple #[r.val, .bool b]) w' := by
  rw [results_B_tmp (P := Tryz.prog) Tryz.results140 h4 hB Tryz.underlying94 rfl info_reg, h5]
  rfl

set_option maxHeartbeats 1000000 in
theorem Find_any (A : Option Addr) (n c : Nat) (l : List Reg) (nm : ByteArray) (w : World) (hl : RegsAt w A n l) (hn : n ≤ 9223372036854775807) :
    Calls Tryz.prog 140 #[.slice A n c, .string nm] w fun e w' => e = .returned (.tuple #[((findR l nm).getD Reg.zero).val, .bool (findR l nm).isSome]) ∧ Ext w w' := by
  by_cases h0 : nm.toList = []
  · have HF : Hid (findR l nm = some Reg.default) := by show findR l nm = _; unfold findR; rw [if_pos h0]
    have h0' : nm.toList.isEmpty = true := by rw [h0]; rfl
    clear h0
    go_enter Tryz.func140, Tryz.ntmps140
    go_wp2_with fail
    refine (Default_any _).mono ?_
    rintro e w1 ⟨rfl, hx1⟩
    unfold Reg.val Reg.default
    dsimp only
    have hB := Lib.hid (Blk.ext (Blk.new w _ _) hx1)
    go_wp2_with (refine wpList_storeB rfl 94 (.tmp 4) (.tmp 10) rfl w.heap.size 94 _ _ (by exact rfl) (by exact rfl) hB.out (by exact rfl) (by exact info_reg) (by simp [Value.oneCell']) ?_)
    refine bodyPost_ret (v := .tuple #[Reg.default.val, .bool true]) ?_ rfl ⟨?_, ?_⟩
    · exact find_ret (r := Reg.default) (hB.out.put _) rfl rfl
    · rw [HF.out]; rfl
    · exact (((Ext.refl w).alloc _).trans hx1).put (Nat.le_refl _) _ _
  · have HF : Hid (findR l nm = l.find? (fun r => r.name.toList == nm.toList)) := by show findR l nm = _; unfold findR; rw [if_neg h0]
    have h0' : nm.toList.isEmpty = false := by cases h : nm.toList with
      | nil => exact absurd h h0
      | cons a b => rfl
    clear h0
    have HL := Lib.hid hl
    clear hl
    go_enter Tryz.func140, Tryz.ntmps140
    go_wp2_with fail
    go_loopw [13] (fun i wr => FindRel w A n l nm i wr) (fun i _ => n - (intOf i).toNat)
    case atStart => exact ⟨0, Nat.zero_le _, rfl, Ext.refl _, rfl⟩
    case round =>
      obtain ⟨k, hk, rfl, hx, hp⟩ := hrel
      have HP := Lib.hid hp
      clear hp
      have hB := Lib.hid (Blk.ext (Blk.new w _ _) hx)
      have hxw : Ext w wr := ((Ext.refl w).alloc _).trans hx
      by_cases hlt : k < n
      · obtain ⟨b, off, r, rfl, hr, hC⟩ := (HL.out.ext hxw).at_ hlt
        have HR := Lib.hid hr
        clear hr
        obtain ⟨c0, c1, c2, c3, c4, c5, c6⟩ := hC
        have hdrop : Hid (l.drop k = r :: l.drop (k + 1)) := by
          show l.drop k = _
          have hkl := (List.getElem?_eq_some_iff.1 HR.out).1
          rw [List.drop_eq_getElem_cons hkl]
          congr 1
          exact (List.getElem?_eq_some_iff.1 HR.out).2
        by_cases hq : (r.name.toList == nm.toList) = true
        · go_wp2_with (refine wpList_storeB rfl 94 (.tmp 4) (.tmp 21) rfl w.heap.size 94 _ _ (by exact rfl) (by exact rfl) (hB.out.alloc _) (by exact rfl) (by exact info_reg) (by simp [Value.oneCell']) ?_)
          refine bodyPost_ret (v := .tuple #[r.val, .bool true]) ?_ rfl ⟨?_, ?_⟩
          · exact find_ret (r := r) ((hB.out.alloc _).put _) rfl rfl
          · rw [HF.out, HP.out, hdrop.out, List.find?_cons, hq]; rfl
          · exact (hxw.alloc _).put (Nat.le_refl _) _ _
        · have hq' : (r.name.toList == nm.toList) = false := by simpa using hq
          clear hq
          go_wp2_with fail
          refine ⟨⟨k + 1, by omega, by go_num, hx.alloc _, ?_⟩, by simp [intOf]; omega⟩
          rw [HP.out, hdrop.out, List.find?_cons, hq']
      · have hend : Hid (l.drop k = []) := List.drop_eq_nil_of_le (by rw [HL.out.len]; omega)
        go_wp2_with (refine wpList_storeB rfl 94 (.tmp 4) (.tmp 23) rfl w.heap.size 94 _ _ (by exact rfl) (by exact rfl) hB.out (by exact rfl) (by exact info_reg) (by simp [Value.oneCell']) ?_)
        refine bodyPost_ret (v := .tuple #[Reg.zero.val, .bool false]) ?_ rfl ⟨?_, ?_⟩
        · exact find_ret (r := Reg.zero) (hB.out.put _) rfl rfl
        · rw [HF.out, HP.out, hend.out]; rfl
        · exact hxw.put (Nat.le_refl _) _ _
end Go.Proofs.YtagfedbdakmlgaaGreatDoor

/-! Event -/
namespace Go.Proofs.YtagfedbdakmlgaaGreatDoor
set_option linter.unusedVariables false
set_option linter.unusedSimpArgs false
open Go.RowKit

/-- an event -/
structure Ev where
  id : Int
  inn : Int
  out : Int
  region : ByteArray
  kind : Int
  speaker : ByteArray
  rows : List Row
  deriving DecidableEq
/-- the cells of an event whose rows lie at A -/
def Ev.cells (e : Ev) (A : Option Addr) (n c : Nat) : Array Value := #[.int .i64 e.id, .int .i64 e.inn, .int .i64 e.out, .string e.region, .int .u8 e.kind, .string e.speaker, .slice A n c]
/-- its rows lie at A, within a capacity that Go bears -/
def EvAt (w : World) (e : Ev) (A : Option Addr) (n c : Nat) : Prop := RowsAt w A n e.rows ∧ n ≤ c ∧ n * 24 ≤ 140737488355328
theorem EvAt.ext {w w1 : World} {e : Ev} {A : Option Addr} {n c : Nat} (h : EvAt w e A n c) (k : Ext w w1) : EvAt w1 e A n c := ⟨h.1.ext k, h.2⟩
theorem EvAt.len {w : World} {e : Ev} {A : Option Addr} {n c : Nat} (h : EvAt w e A n c) : e.rows.length = n := h.1.len

/-- small texts: what the walks that reckon lengths ask -/
def RowSmall (r : Row) : Prop := rowBytes r < 4294967281 ∧ ∀ x ∈ r, x.text.size ≤ 4611686018427387904 ∧ x.ruby.size ≤ 4611686018427387904
def EvSmall (e : Ev) : Prop := e.region.size ≤ 9223372036854775807 ∧ e.speaker.size ≤ 9223372036854775807 ∧ ∀ r ∈ e.rows, RowSmall r

def LensPost (e : Ev) (w : World) (en : Ending) (w' : World) : Prop :=
  ∃ A n c, en = .returned (.slice A n c) ∧ IntsAt w' A n (e.rows.map rowLen) ∧ n ≤ c ∧ Ext w w'

def LensRel (w : World) (bx : Array Value) (n : Nat) (rows : List Row) (v i : Value) (wr : World) : Prop :=
  ∃ k : Nat, k ≤ n ∧ i = .int .i64 k ∧ Ext (w.alloc (.cells bx 66)) wr ∧ wr.ownsRow (w.heap.size + 1) 3 1 v k (((rows.take k).map rowLen).flatMap fun x => [Value.int .i64 x])

theorem info_int : (Tryz.prog.info? 3).map (fun i => (i.zero, i.size, i.bytes)) = some (some (.int .i64 0), 1, 8) := by kernel_rfl

theorem lensPost_ok {e : Ev} {w w' : World} {v : Value} {n base : Nat} (hn : e.rows.length = n) (hown : w'.ownsRow base 3 1 v n ((e.rows.map rowLen).flatMap fun x => [Value.int .i64 x])) (hx : Ext w w') : LensPost e w (.returned v) w' := by
  have hl : (e.rows.map rowLen).length = n := by rw [List.length_map, hn]
  obtain ⟨A, c, rfl, hc, _, hsl, _⟩ := own_sl (f := fun x : Int => [Value.int .i64 x]) (size := 1) (fun _ => rfl) hl hown
  exact ⟨A, n, c, rfl, hsl, hc, hx⟩

set_option maxRecDepth 100000 in
set_option maxHeartbeats 2000000 in
theorem lens_any (e : Ev) (A : Option Addr) (n c : Nat) (w : World) (hE : Env w) (he : EvAt w e A n c) (hb : ∀ r ∈ e.rows, RowSmall r) :
    Calls Tryz.prog 122 #[.agg (e.cells A n c)] w (LensPost e w) := by
  have hn24 : n * 24 ≤ 140737488355328 := by have := he.2; omega
  have HA := Lib.hid he.1
  have HLn := Lib.hid he.len
  have HEn := Lib.hid hE
  have HBd := Lib.hid hb
  clear he hE hb
  unfold Ev.cells
  go_enter Tryz.func122, Tryz.ntmps122
  go_wp2_with fail
  go_loopw [3, 9] (fun v i wr => LensRel w #[.int .i64 e.id, .int .i64 e.inn, .int .i64 e.out, .string e.region, .int .u8 e.kind, .string e.speaker, .slice A n c] n e.rows v i wr) (fun _ i _ => n - (intOf i).toNat)
  case atStart => exact ⟨0, Nat.zero_le _, rfl, Ext.refl _, ⟨rfl, .inl ⟨rfl, rfl⟩⟩⟩
  case round =>
    obtain ⟨k, hk, rfl, hx, hown⟩ := hrel
    have hxw : Ext w wr := ((Ext.refl w).alloc _).trans hx
    by_cases hlt : k < n
    · obtain ⟨b, off, r, rfl, hr, A', n', c', hcell, hnc, hc40, hruns⟩ := (HA.out.ext hxw).at_ hlt
      simp only [Nat.mul_one] at hcell
      have HR := Lib.hid hruns
      have hsm := HBd.out r (List.mem_of_getElem? hr)
      have HT := Lib.hid (take_snoc' e.rows k r hr)
      have hrb : rowBytes r < 4294967281 := hsm.1
      clear hr hruns hsm
      go_wp2_with fail
      refine (SLen_any A' n' c' r _ (HEn.out.ext (hxw.alloc _)) (HR.out.ext ((Ext.refl wr).alloc _)) (by omega) (by omega)).mono ?_
      rintro en w2 ⟨rfl, hx2⟩
      have HO2 := Lib.hid (own_ext (hown.alloc (.cells #[.slice A' n' c'] 87)) hx2)
      have hsz2 := hx.size
      have hsz3 := hx2.size
      simp only [World.size_alloc] at hsz2 hsz3
      go_wp2_with (at_builtin; refine wpList_append1 rfl (.tmp 13) (.tmp 16) 59 rfl info_int Tryz.underlying59 rfl (by decide) (HO2.out.alloc _) (by exact rfl) w2.heap.size _ (by exact rfl) (by exact Blk.new' rfl) (by exact rfl) (by simp [Value.oneCell']) (by omega) (by simp [maxLen]; omega) (by simp; omega) ?_; intro v' w3 hown3 hgr)
      refine ⟨⟨k + 1, by omega, by go_num, ((hx.alloc _).trans (hx2.alloc _)).grown hgr (fun q hq => by have := own_lt hown q hq; simpa using this), ?_⟩, by simp [intOf]; omega⟩
      rw [HT.out, List.map_append, List.flatMap_append]
      exact hown3
    · have hkn : k = n := by omega
      subst hkn
      have HT : Hid (e.rows.take k = e.rows) := List.take_of_length_le (by rw [HLn.out]; omega)
      have HO := Lib.hid hown
      clear hown
      go_wp2_with fail
      go_ret
      exact lensPost_ok HLn.out (by have := HO.out; rw [HT.out] at this; exact this) hxw
end Go.Proofs.YtagfedbdakmlgaaGreatDoor

/-! EventB -/
namespace Go.Proofs.YtagfedbdakmlgaaGreatDoor
set_option linter.unusedVariables false
set_option linter.unusedSimpArgs false
open Go.RowKit

def Ev.frames (e : Ev) : Int := if spansB e.inn e.out = true then e.out - e.inn else 0

def lenSum : Int → List Int → Int
  | s, [] => s
  | s, n :: l => if n < 0 then -1 else lenSum (s + n) l
/-- the number of characters of an event, with its line feeds -/
def Ev.len (e : Ev) : Int := lenSum (max ((e.rows.length : Int) - 1) 0) (e.rows.map rowLen)
def Ev.bytes (e : Ev) : Nat := (e.rows.map rowBytes).sum

theorem rowLen_le : ∀ l : Row, rowLen l ≤ rowBytes l
  | [] => by simp [rowLen, rowBytes]
  | r :: l => by
    have h1 := rowLen_le l
    have h2 := clen_le r.text
    rw [rowBytes_cons]
    unfold rowLen
    split
    · omega
    · split <;> omega

def sumNat (l : List Nat) : Nat := l.sum
theorem sum_take_le (l : List Row) (k : Nat) (r : Row) (h : l[k]? = some r) : ((l.take k).map rowBytes).sum + rowBytes r ≤ (l.map rowBytes).sum := by
  have e := List.take_append_drop k l
  have h1 : (l.map rowBytes).sum = ((l.take k).map rowBytes).sum + ((l.drop k).map rowBytes).sum := by
    conv => lhs; rw [← e]
    rw [List.map_append, List.sum_append]
  rw [h1, drop_at l k r h]
  simp

def ELenRel (n : Nat) (e : Ev) (v i : Value) : Prop :=
  ∃ (k : Nat) (s : Int), k ≤ n ∧ i = .int .i64 k ∧ v = .int .i64 s ∧ 0 ≤ s ∧ s ≤ n + ((e.rows.take k).map rowBytes).sum ∧ e.len = lenSum s ((e.rows.map rowLen).drop k)

set_option maxRecDepth 100000 in
set_option maxHeartbeats 2000000 in
theorem ELen_any (e : Ev) (A : Option Addr) (n c : Nat) (w : World) (hE : Env w) (he : EvAt w e A n c) (hb : ∀ r ∈ e.rows, RowSmall r) (hby : e.bytes ≤ 1099511627776) :
    Calls Tryz.prog 59 #[.agg (e.cells A n c)] w fun en w' => en = .returned (.int .i64 e.len) ∧ Ext w w' := by
  have hn24 : n * 24 ≤ 140737488355328 := by have := he.2; omega
  have HL := Lib.hid (fun w hE he => lens_any e A n c w hE he hb)
  have HA := Lib.hid he
  have HLn := Lib.hid he.len
  have HEn := Lib.hid hE
  clear he hE hb
  unfold Ev.cells at HL ⊢
  go_enter Tryz.func59, Tryz.ntmps59
  go_wp2_with fail
  refine (HL.out _ (HEn.out.ext ((Ext.refl w).alloc _)) (HA.out.ext ((Ext.refl w).alloc _))).mono ?_
  rintro en w1 ⟨A1, n1, c1, rfl, hints, hnc1, hx1⟩
  have hxw1 : Ext w w1 := ((Ext.refl w).alloc _).trans hx1
  obtain rfl : n = n1 := by rw [← HLn.out, ← hints.len, List.length_map]
  have HI := Lib.hid hints
  clear hints
  go_wp2_with fail
  go_loop [3, 14] (fun v i => ELenRel n e v i) (fun _ i => n - (intOf i).toNat)
  case atStart => exact ⟨0, _, Nat.zero_le _, rfl, rfl, by omega, by simp; omega, by unfold Ev.len; rw [HLn.out]; rfl⟩
  case round =>
    obtain ⟨k, s, hk, rfl, rfl, hs0, hs1, hp⟩ := hrel
    have HP := Lib.hid hp
    clear hp
    by_cases hlt : k < n
    · obtain ⟨b, off, x, rfl, hxx, hcell⟩ := HI.out.cell hlt
      have HD := Lib.hid (drop_at _ k x hxx)
      rw [List.getElem?_map] at hxx
      obtain ⟨r, hr, rfl⟩ := Option.map_eq_some_iff.1 hxx
      have h1 := sum_take_le e.rows k r hr
      have h2 := rowLen_le r
      have h3 : Hid (((e.rows.take (k + 1)).map rowBytes).sum = ((e.rows.take k).map rowBytes).sum + rowBytes r) := by
        show _ = _
        rw [take_snoc' e.rows k r hr, List.map_append, List.sum_append]
        simp
      have hby' : (e.rows.map rowBytes).sum ≤ 1099511627776 := hby
      have hs2 : s + rowLen r ≤ 4611686018427387904 := by omega
      have hs3 : s ≤ 4611686018427387904 := by omega
      clear hr hxx h1 hby'
      by_cases hneg : rowLen r < 0
      · go_wp2_with fail
        go_ret
        exact ⟨ret_int (by rw [HP.out, HD.out, lenSum, if_pos (by omega)]), hxw1⟩
      · go_wp2_with fail
        refine ⟨⟨k + 1, s + rowLen r, by omega, by go_num, rfl, by omega, ?_, ?_⟩, by simp [intOf]; omega⟩
        · rw [h3.out]; omega
        · rw [HP.out, HD.out, lenSum, if_neg (by omega)]
    · have HD : Hid ((e.rows.map rowLen).drop k = []) := List.drop_eq_nil_of_le (by rw [List.length_map, HLn.out]; omega)
      go_wp2_with fail
      go_ret
      exact ⟨ret_int (by rw [HP.out, HD.out]; rfl), hxw1⟩

/-- the text of an event -/
def Ev.text (e : Ev) : List UInt8 := Lib.join (e.rows.map rowText) [10]
def EPlainRel (w : World) (bx : Array Value) (n : Nat) (rows : List Row) (v i : Value) (wr : World) : Prop :=
  ∃ k : Nat, k ≤ n ∧ i = .int .i64 k ∧ Ext (w.alloc (.cells bx 66)) wr ∧ wr.ownsRow (w.heap.size + 1) 9 1 v k (((rows.take k).map textOf).flatMap fun x => [Value.string x])
theorem info_string : (Tryz.prog.info? 9).map (fun i => (i.zero, i.size, i.bytes)) = some (some (.string ⟨#[]⟩), 1, 16) := by kernel_rfl

theorem join_cons (sep a b : List UInt8) (l : List (List UInt8)) : Lib.join (a :: b :: l) sep = a ++ (sep ++ Lib.join (b :: l) sep) := by
  simp [Lib.join, List.intercalate]
theorem join_len (sep : List UInt8) : ∀ l : List (List UInt8), (Lib.join l sep).length ≤ (l.map List.length).sum + l.length * sep.length
  | [] => by simp [Lib.join]
  | [a] => by simp [Lib.join]
  | a :: b :: l => by
    have := join_len sep (b :: l)
    rw [join_cons]
    simp only [List.length_append, List.map_cons, List.sum_cons, List.length_cons, Nat.succ_mul] at this ⊢
    omega

set_option maxRecDepth 100000 in
set_option maxHeartbeats 2000000 in
theorem EPlain_any (e : Ev) (A : Option Addr) (n c : Nat) (w : World) (he : EvAt w e A n c) (hby : e.bytes ≤ 1099511627776) :
    Calls Tryz.prog 86 #[.agg (e.cells A n c)] w fun en w' => en = .returned (.string ⟨e.text.toArray⟩) ∧ Ext w w' := by
  have hn24 : n * 24 ≤ 140737488355328 := by have := he.2; omega
  have HA := Lib.hid he.1
  have HLn := Lib.hid he.len
  clear he
  unfold Ev.cells
  go_enter Tryz.func86, Tryz.ntmps86
  go_wp2_with fail
  go_loopw [3, 9] (fun v i wr => EPlainRel w #[.int .i64 e.id, .int .i64 e.inn, .int .i64 e.out, .string e.region, .int .u8 e.kind, .string e.speaker, .slice A n c] n e.rows v i wr) (fun _ i _ => n - (intOf i).toNat)
  case atStart => exact ⟨0, Nat.zero_le _, rfl, Ext.refl _, ⟨rfl, .inl ⟨rfl, rfl⟩⟩⟩
  case round =>
    obtain ⟨k, hk, rfl, hx, hown⟩ := hrel
    have hxw : Ext w wr := ((Ext.refl w).alloc _).trans hx
    by_cases hlt : k < n
    · obtain ⟨b, off, r, rfl, hr, A', n', c', hcell, hnc, hc40, hruns⟩ := (HA.out.ext hxw).at_ hlt
      simp only [Nat.mul_one] at hcell
      have HR := Lib.hid hruns
      have HT := Lib.hid (take_snoc' e.rows k r hr)
      have hrb : rowBytes r ≤ 1099511627776 := by
        have h1 := sum_take_le e.rows k r hr
        have h2 : (e.rows.map rowBytes).sum ≤ 1099511627776 := hby
        omega
      clear hr hruns
      go_wp2_with fail
      refine (Plain_any A' n' c' r _ (HR.out.ext ((Ext.refl wr).alloc _)) (by omega) (by omega)).mono ?_
      rintro en w2 ⟨rfl, hx2⟩
      have HO2 := Lib.hid (own_ext (hown.alloc (.cells #[.slice A' n' c'] 87)) hx2)
      have hsz2 := hx.size
      have hsz3 := hx2.size
      simp only [World.size_alloc] at hsz2 hsz3
      rw [show (⟨(rowText r).toArray⟩ : ByteArray) = textOf r from rfl]
      go_wp2_with (at_builtin; refine wpList_append1 rfl (.tmp 13) (.tmp 16) 152 rfl info_string Tryz.underlying152 rfl (by decide) (HO2.out.alloc _) (by exact rfl) w2.heap.size _ (by exact rfl) (by exact Blk.new' rfl) (by exact rfl) (by simp [Value.oneCell']) (by omega) (by simp [maxLen]; omega) (by simp; omega) ?_; intro v' w3 hown3 hgr)
      refine ⟨⟨k + 1, by omega, by go_num, ((hx.alloc _).trans (hx2.alloc _)).grown hgr (fun q hq => by have := own_lt hown q hq; simpa using this), ?_⟩, by simp [intOf]; omega⟩
      rw [HT.out, List.map_append, List.flatMap_append]
      exact hown3
    · have hkn : k = n := by omega
      subst hkn
      have HT : Hid (e.rows.take k = e.rows) := List.take_of_length_le (by rw [HLn.out]; omega)
      have hl : (e.rows.map textOf).length = k := by rw [List.length_map, HLn.out]
      rw [HT.out] at hown
      obtain ⟨A', c', rfl, hc, _, hsl, _⟩ := own_sl (f := fun x : ByteArray => [Value.string x]) (size := 1) (fun _ => rfl) hl hown
      have HS := Lib.hid hsl
      have HK := Lib.hid hl
      clear hsl hown hl
      go_wp2_with fail
      by_cases hk0 : k = 0
      · subst hk0
        refine (Tryz.strings_Join_none _ _ _ _).mono ?_
        rintro en w2 ⟨rfl, rfl⟩
        go_wp2_with fail
        go_ret
        have : e.rows = [] := List.eq_nil_of_length_eq_zero HLn.out
        exact ⟨by unfold Ev.text; rw [this]; rfl, hxw⟩
      · obtain ⟨b, off, hA', hcs⟩ := HS.out.2 (by omega)
        subst hA'
        have hk' : Hid (k = (e.rows.map textOf).length) := HK.out.symm
        have hfit := Tryz.strings_Join b off c' (e.rows.map textOf) ⟨#[10]⟩ wr (fun j x hx => by simpa using hcs j x hx 0 _ rfl) ?_ (by rw [HK.out]; omega) (by rw [HK.out]; exact hc) ?_
        · rw [HK.out] at hfit
          refine hfit.mono ?_
          rintro en w2 ⟨rfl, hx2⟩
          go_wp2_with fail
          go_ret
          refine ⟨?_, hxw.trans hx2⟩
          unfold Ev.text
          rfl
        · obtain ⟨x, hx⟩ : ∃ x, (e.rows.map textOf)[0]? = some x := ⟨_, List.getElem?_eq_getElem (by rw [HK.out]; omega)⟩
          exact World.block_lt_of_cell? wr _ (hcs 0 x hx 0 _ rfl)
        · refine Nat.le_trans (join_len _ _) ?_
          have h1 : (((e.rows.map textOf).map (·.data.toList)).map List.length).sum = e.bytes := by
            unfold Ev.bytes
            rw [List.map_map, List.map_map]
            congr 1
            apply List.map_congr_left
            intro r _
            exact rowText_len r
          rw [h1, List.length_map, HK.out]
          show e.bytes + k * 1 ≤ _
          omega
end Go.Proofs.YtagfedbdakmlgaaGreatDoor

/-! EventC -/
namespace Go.Proofs.YtagfedbdakmlgaaGreatDoor
set_option linter.unusedVariables false
set_option linter.unusedSimpArgs false
open Go.RowKit

def RegsSmall (l : List Reg) : Prop := ∀ r ∈ l, r.name.size ≤ 9223372036854775807
theorem findR_small {l : List Reg} {nm : ByteArray} (h : RegsSmall l) : ((findR l nm).getD Reg.zero).name.size ≤ 9223372036854775807 := by
  unfold findR
  split
  · show ByteArray.empty.size ≤ _
    decide
  · cases hf : l.find? (fun r => r.name.toList == nm.toList) with
    | none => show ByteArray.empty.size ≤ _; decide
    | some r => exact h r (List.mem_of_find?_eq_some hf)

/-- the error of Spots -/
def Ev.spotsErr (e : Ev) (regs : List Reg) : Int :=
  match findR regs e.region with
  | none => 6
  | some r => if (e.rows.map rowLen).any (fun n => decide (n < 0)) = true then 10 else r.place (e.rows.map rowLen)
def Ev.spots (e : Ev) (regs : List Reg) : List Spot :=
  if e.spotsErr regs = 0 then ((findR regs e.region).getD Reg.zero).spots (((findR regs e.region).getD Reg.zero).top' e.rows.length) 0 (e.rows.map rowLen) else []
def SpotsPost (e : Ev) (regs : List Reg) (w : World) (en : Ending) (w' : World) : Prop :=
  ∃ A n c, en = .returned (.tuple #[.slice A n c, .int .i64 (e.spotsErr regs)]) ∧ SpotsAt w' A n (e.spots regs) ∧ n ≤ c ∧ Ext w w'
theorem spotsPost_err {e : Ev} {regs : List Reg} {w w' : World} {en : Ending} {k : Int} (hk : e.spotsErr regs = k) (h0 : k ≠ 0) (he : en = .returned (.tuple #[.slice none 0 0, .int .i64 k])) (hx : Ext w w') : SpotsPost e regs w en w' :=
  ⟨none, 0, 0, by rw [hk]; exact he, by unfold Ev.spots; rw [if_neg (by rw [hk]; exact h0)]; exact Sl.nil, Nat.le_refl _, hx⟩

def NegRel (n : Nat) (l : List Int) (i : Value) : Prop := ∃ k : Nat, k ≤ n ∧ i = .int .i64 k ∧ l.any (fun n => decide (n < 0)) = (l.drop k).any (fun n => decide (n < 0))

end Go.Proofs.YtagfedbdakmlgaaGreatDoor
