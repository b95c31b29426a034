/- Texts laid together. -/
import Derived.Test.YtbmblnhfmpolbaaGreatDoorTm02
import Derived.Test.YtbmblnhfmpolbaaGreatDoorTm01
import Derived.Lib.SliceRun
import Derived.Test.YtbmblnhfmpolbaaGreatDoorShelf
import Derived.Lib.LaidU8T
import Derived.Deep.DeepHandedRow
import Derived.Lib.LaidTab
set_option linter.unusedVariables false
set_option linter.unusedSimpArgs false
namespace Go.Proofs.YtbmblnhfmpolbaaGreatDoor
section
open Go.RowKit
def IntsAt (w : World) (A : Option Addr) (n : Nat) (l : List Int) : Prop := Sl w 1 (Cells fun x => [.int .i64 x]) A n l
theorem IntsAt.ext {w w1 : World} {A : Option Addr} {n : Nat} {l : List Int} (h : IntsAt w A n l) (k : Ext w w1) : IntsAt w1 A n l := Sl.ext (Cells.stays _) h k
theorem IntsAt.cell {w : World} {A : Option Addr} {n : Nat} {l : List Int} (h : IntsAt w A n l) {i : Nat} (hi : i < n) : ∃ b off x, A = some ⟨b, off, none⟩ ∧ l[i]? = some x ∧ w.cell? ⟨b, off + i, none⟩ = some (.int .i64 x) := by
 obtain ⟨b, off, x, hA, hx, hc⟩ := h.at_ hi
 exact ⟨b, off, x, hA, hx, by simpa using hc 0 (.int .i64 x) rfl⟩
structure Spot where
 row : Int
 col : Int
 len : Int
 deriving DecidableEq
def Spot.cells (s : Spot) : List Value := [.int .i64 s.row, .int .i64 s.col, .int .i64 s.len]
def Spot.val (s : Spot) : Value := .agg s.cells.toArray
def SpotsAt (w : World) (A : Option Addr) (n : Nat) (l : List Spot) : Prop := Sl w 3 (Cells Spot.cells) A n l
def Reg.spot (r : Reg) (top : Int) (i : Nat) (n : Int) : Spot := ⟨top + i, if r.align = 3 then r.left + (r.width - n) else if r.align = 2 then r.left + (r.width - n) / 2 else r.left, n⟩
def Reg.spots (r : Reg) (top : Int) : Nat → List Int → List Spot
 | _, [] => []
 | i, n :: l => r.spot top i n :: r.spots top (i + 1) l
def Reg.lensErr (r : Reg) : List Int → Int
 | [] => 0
 | n :: l => if n < 0 then 2 else if r.width < n then 11 else r.lensErr l
def Reg.top' (r : Reg) (n : Nat) : Int := if r.bottom then r.top + (r.height - n) else r.top
def Reg.place (r : Reg) (lens : List Int) : Int := if r.usable = false then 1 else if r.height < lens.length then 9 else r.lensErr lens
theorem spots_snoc (r : Reg) (top : Int) : ∀ (l : List Int) (i : Nat) (n : Int), r.spots top i (l ++ [n]) = r.spots top i l ++ [r.spot top (i + l.length) n]
 | [], i, n => by simp [Reg.spots]
 | a :: l, i, n => by
  simp only [List.cons_append, Reg.spots, spots_snoc r top l (i + 1) n, List.length_cons]
  rw [show i + 1 + l.length = i + (l.length + 1) by omega]
theorem spots_len (r : Reg) (top : Int) : ∀ (l : List Int) (i : Nat), (r.spots top i l).length = l.length
 | [], i => rfl
 | a :: l, i => by simp [Reg.spots, spots_len r top l (i + 1)]
theorem lensErr_drop (r : Reg) (l : List Int) (k : Nat) (x : Int) (hx : l[k]? = some x) : r.lensErr (l.drop k) = if x < 0 then 2 else if r.width < x then 11 else r.lensErr (l.drop (k + 1)) := by
 have hkl := (List.getElem?_eq_some_iff.1 hx).1
 rw [List.drop_eq_getElem_cons hkl, (List.getElem?_eq_some_iff.1 hx).2]
 rfl
theorem usable_bounds {r : Reg} (h : r.usable = true) : (0 ≤ r.top ∧ r.top ≤ 14) ∧ (1 ≤ r.height ∧ r.height ≤ 15) ∧ (0 ≤ r.left ∧ r.left ≤ 31) ∧ (1 ≤ r.width ∧ r.width ≤ 32) := by
 unfold Reg.usable at h
 rcases of_decide_eq_true h with h | h
 · subst h; decide
 · unfold Reg.check at h
   split at h
   · omega
   · split at h
     · omega
     · rename_i h1 h2
       have h2' : r.inGrid := by simpa using h2
       unfold Reg.inGrid at h2'
       omega
def PlaceRelI (w : World) (bx : Array Value) (r : Reg) (top : Int) (n : Nat) (lens : List Int) (v i : Value) (wr : World) : Prop :=
 ∃ k : Nat, k ≤ n ∧ i = .int .i64 k ∧ Ext (w.alloc (.cells bx 53)) wr ∧ r.lensErr lens = r.lensErr (lens.drop k) ∧
  wr.ownsRow (w.heap.size + 1) 199 3 v k ((r.spots top 0 (lens.take k)).flatMap Spot.cells)
theorem info_spot : (Tryz.prog.info? 199).map (fun i => (i.zero, i.size, i.bytes)) = some (some (.agg #[.int .i64 0, .int .i64 0, .int .i64 0]), 3, 24) := by kernel_rfl
def PlacePost (r : Reg) (lens : List Int) (w : World) (e : Ending) (w' : World) : Prop :=
 ∃ A n c, e = .returned (.tuple #[.slice A n c, .int .i64 (r.place lens)]) ∧ SpotsAt w' A n (if r.place lens = 0 then r.spots (r.top' lens.length) 0 lens else []) ∧ n ≤ c ∧ Ext w w'
theorem placePost_err {r : Reg} {lens : List Int} {w w' : World} {e : Ending} {k : Int} (hk : r.place lens = k) (h0 : k ≠ 0) (he : e = .returned (.tuple #[.slice none 0 0, .int .i64 k])) (hx : Ext w w') : PlacePost r lens w e w' :=
 ⟨none, 0, 0, by rw [hk]; exact he, by rw [if_neg (by rw [hk]; exact h0)]; exact Sl.nil, Nat.le_refl _, hx⟩
theorem placePost_ok {r : Reg} {lens : List Int} {w w' : World} {v : Value} {n base : Nat} {top : Int} (h0 : r.place lens = 0) (ht : r.top' lens.length = top)
 (hown : w'.ownsRow base 199 3 v n ((r.spots top 0 lens).flatMap Spot.cells)) (hn : lens.length = n) (hx : Ext w w') : PlacePost r lens w (.returned (.tuple #[v, .int .i64 0])) w' := by
 have hl : (r.spots top 0 lens).length = n := by rw [spots_len, hn]
 obtain ⟨A, c, rfl, hc, _, hsl, _⟩ := own_sl (f := Spot.cells) (size := 3) (fun _ => rfl) hl hown
 exact ⟨A, n, c, by rw [h0], by rw [if_pos h0, ht]; exact hsl, hc, hx⟩
set_option maxRecDepth 100000 in
set_option maxHeartbeats 4000000 in
theorem Place_any (r : Reg) (A : Option Addr) (n c : Nat) (lens : List Int) (w : World) (hs : r.name.size ≤ 9223372036854775807) (hl : IntsAt w A n lens) (hn : n ≤ 9223372036854775807) :
 Calls Tryz.prog 81 #[r.val, .slice A n c] w (PlacePost r lens w) := by
 have hU := fun w => usable_any r w hs
 have hlen := hl.len
 cases hu : r.usable
 · have HP : Hid (r.place lens = 1) := by show r.place lens = 1; unfold Reg.place; rw [if_pos hu]
   have HU := Lib.hid hU
   have Hu := Lib.hid hu
   clear hU hu hlen hl
   obtain ⟨nm, top, hgt, lft, wid, al, bot⟩ := r
   unfold Reg.val at HU ⊢
   dsimp only at HU ⊢
   go_enter Tryz.func81, Tryz.ntmps81
   go_wp2_with fail
   refine (HU.out _).mono ?_
   rintro e w1 ⟨rfl, hx1⟩
   rw [Hu.out]
   go_wp2_with fail
   go_ret2
   exact placePost_err HP.out (by decide) rfl (((Ext.refl w).alloc _).trans hx1)
 · have hb := usable_bounds hu
   obtain ⟨⟨ht0, ht1⟩, ⟨hh0, hh1⟩, ⟨hl0, hl1⟩, ⟨hw0, hw1⟩⟩ := hb
   by_cases hgt9 : r.height < n
   · have HP : Hid (r.place lens = 9) := by show r.place lens = 9; unfold Reg.place; rw [if_neg (by rw [hu]; simp), if_pos (by rw [hlen]; exact hgt9)]
     have HU := Lib.hid hU
     have Hu := Lib.hid hu
     clear hU hu hlen hl
     obtain ⟨nm, top, hgt, lft, wid, al, bot⟩ := r
     unfold Reg.val at HU ⊢
     dsimp only at *
     go_enter Tryz.func81, Tryz.ntmps81
     go_wp2_with fail
     refine (HU.out _).mono ?_
     rintro e w1 ⟨rfl, hx1⟩
     rw [Hu.out]
     have hc := hx1.bcell.1 w.heap.size
     simp at hc
     go_wp2_with fail
     go_ret2
     exact placePost_err HP.out (by decide) rfl (((Ext.refl w).alloc _).trans hx1)
   · have hnh : (n : Int) ≤ r.height := by omega
     have hn15 : n ≤ 15 := by omega
     have HP : Hid (r.place lens = r.lensErr lens) := by show r.place lens = _; unfold Reg.place; rw [if_neg (by rw [hu]; simp), if_neg (by rw [hlen]; omega)]
     have HLn := Lib.hid hlen
     have HL := Lib.hid hl
     have HU := Lib.hid hU
     have Hu := Lib.hid hu
     clear hU hu hlen hl hgt9
     obtain ⟨i0, hi0, hz0, hz1, hz2⟩ := info_parts info_spot
     obtain ⟨nm, top, hgt, lft, wid, al, bot⟩ := r
     unfold Reg.val at HU ⊢
     dsimp only at *
     cases bot
     · go_enter Tryz.func81, Tryz.ntmps81
       go_wp2_with fail
       refine (HU.out _).mono ?_
       rintro e w1 ⟨rfl, hx1⟩
       rw [Hu.out]
       have hc := hx1.bcell.1 w.heap.size
       simp at hc
       go_wp2_with fail
       clear hc
       go_loopw [7, 34] (fun v i wr => PlaceRelI w #[.string nm, .int .i64 top, .int .i64 hgt, .int .i64 lft, .int .i64 wid, .int .u8 al, .bool false] ⟨nm, top, hgt, lft, wid, al, false⟩ top n lens v i wr) (fun _ i _ => n - (intOf i).toNat)
       case atStart => exact ⟨0, Nat.zero_le _, rfl, hx1, rfl, ⟨by simp [Reg.spots], .inl ⟨rfl, rfl⟩⟩⟩
       case round =>
        obtain ⟨k, hk, rfl, hx, hp, hown⟩ := hrel
        have HPr := Lib.hid hp
        clear hp
        have hB := Lib.hid (Blk.ext (Blk.new w _ _) hx)
        have hxw : Ext w wr := ((Ext.refl w).alloc _).trans hx
        have hc := fun o => hB.out.cell o
        have hsz : w.heap.size < wr.heap.size := hB.out.lt
        have hne : w.heap.size ≠ wr.heap.size := by omega
        by_cases hlt : k < n
        · obtain ⟨b, off, x, rfl, hxx, hcell⟩ := (HL.out.ext hxw).cell hlt
          have HX := Lib.hid hxx
          have HE := Lib.hid (lensErr_drop ⟨nm, top, hgt, lft, wid, al, false⟩ lens k x hxx)
          have HT := Lib.hid (take_snoc' lens k x hxx)
          have hkl : Hid ((lens.take k).length = k) := by show (lens.take k).length = k; rw [List.length_take, HLn.out]; omega
          clear hxx
          by_cases hneg : x < 0
          · go_wp2_with fail
            go_ret2
            exact placePost_err (k := 2) (by rw [HP.out, HPr.out, HE.out, if_pos (by omega)]) (by decide) rfl hxw
          · by_cases hwide : wid < x
            · go_wp2_with fail
              go_ret2
              exact placePost_err (k := 11) (by rw [HP.out, HPr.out, HE.out, if_neg (by omega), if_pos (by omega)]) (by decide) rfl hxw
            · have HS := Lib.hid (spots_snoc ⟨nm, top, hgt, lft, wid, al, false⟩ top (lens.take k) 0 x)
              have hE2 : Hid (Reg.lensErr ⟨nm, top, hgt, lft, wid, al, false⟩ lens = Reg.lensErr ⟨nm, top, hgt, lft, wid, al, false⟩ (lens.drop (k + 1))) := by
               show _ = _
               rw [HPr.out, HE.out, if_neg (by omega), if_neg (by omega)]
              by_cases ha3 : (al == 3) = true
              · have hal : al = 3 := by simpa using ha3
                have HSp : Hid (Reg.spot ⟨nm, top, hgt, lft, wid, al, false⟩ top (0 + (lens.take k).length) x = ⟨top + k, lft + (wid - x), x⟩) := by
                 show _ = _
                 rw [hkl.out]; unfold Reg.spot; simp [hal]
                clear hal
                go_wp2_with (at_builtin; refine wpList_append1 rfl (.tmp 75) (.tmp 77) 167 rfl info_spot Tryz.underlying167 rfl (by decide) ((hown.alloc _).alloc _) (by exact rfl) (wr.heap.size + 1) _ (by exact rfl) (by exact Blk.new' (by simp)) (by exact rfl) (by simp [Value.oneCell']) (by omega) (by simp [maxLen]; omega) (by simp; omega) ?_; intro v' w' hown' hgr)
                refine ⟨⟨k + 1, by omega, by go_num, ((hx.alloc _).alloc _).grown hgr (fun q hq => by have := own_lt hown q hq; simpa using this), hE2.out, ?_⟩, by simp [intOf]; omega⟩
                rw [HT.out, HS.out, List.flatMap_append, HSp.out]
                exact hown'
              · have ha3' : (al == 3) = false := by simpa using ha3
                clear ha3
                have hn3 : ¬ al = 3 := by simpa using ha3'
                by_cases ha2 : (al == 2) = true
                · have hal : al = 2 := by simpa using ha2
                  have HSp : Hid (Reg.spot ⟨nm, top, hgt, lft, wid, al, false⟩ top (0 + (lens.take k).length) x = ⟨top + k, lft + (wid - x) / 2, x⟩) := by
                   show _ = _
                   rw [hkl.out]; unfold Reg.spot; simp [hal]
                  clear hal hn3
                  go_wp2_with (at_builtin; refine wpList_append1 rfl (.tmp 75) (.tmp 77) 167 rfl info_spot Tryz.underlying167 rfl (by decide) ((hown.alloc _).alloc _) (by exact rfl) (wr.heap.size + 1) _ (by exact rfl) (by exact Blk.new' (by simp)) (by exact rfl) (by simp [Value.oneCell']) (by omega) (by simp [maxLen]; omega) (by simp; omega) ?_; intro v' w' hown' hgr)
                  refine ⟨⟨k + 1, by omega, by go_num, ((hx.alloc _).alloc _).grown hgr (fun q hq => by have := own_lt hown q hq; simpa using this), hE2.out, ?_⟩, by simp [intOf]; omega⟩
                  rw [HT.out, HS.out, List.flatMap_append, HSp.out]
                  exact hown'
                · have ha2' : (al == 2) = false := by simpa using ha2
                  clear ha2
                  have hn2 : ¬ al = 2 := by simpa using ha2'
                  have HSp : Hid (Reg.spot ⟨nm, top, hgt, lft, wid, al, false⟩ top (0 + (lens.take k).length) x = ⟨top + k, lft, x⟩) := by
                   show _ = _
                   rw [hkl.out]; unfold Reg.spot; simp [hn3, hn2]
                  clear hn2 hn3
                  go_wp2_with (at_builtin; refine wpList_append1 rfl (.tmp 75) (.tmp 77) 167 rfl info_spot Tryz.underlying167 rfl (by decide) ((hown.alloc _).alloc _) (by exact rfl) (wr.heap.size + 1) _ (by exact rfl) (by exact Blk.new' (by simp)) (by exact rfl) (by simp [Value.oneCell']) (by omega) (by simp [maxLen]; omega) (by simp; omega) ?_; intro v' w' hown' hgr)
                  refine ⟨⟨k + 1, by omega, by go_num, ((hx.alloc _).alloc _).grown hgr (fun q hq => by have := own_lt hown q hq; simpa using this), hE2.out, ?_⟩, by simp [intOf]; omega⟩
                  rw [HT.out, HS.out, List.flatMap_append, HSp.out]
                  exact hown'
        · have hkn : k = n := by omega
          subst hkn
          have HD : Hid (lens.drop k = []) := List.drop_eq_nil_of_le (by rw [HLn.out]; omega)
          have HTk : Hid (lens.take k = lens) := List.take_of_length_le (by rw [HLn.out]; omega)
          have HO := Lib.hid hown
          clear hown
          go_wp2_with fail
          go_ret2
          exact placePost_ok (by rw [HP.out, HPr.out, HD.out]; rfl) (by rw [HLn.out]; rfl) (HTk.out ▸ HO.out) (by rw [HLn.out]) hxw
     · go_enter Tryz.func81, Tryz.ntmps81
       go_wp2_with fail
       refine (HU.out _).mono ?_
       rintro e w1 ⟨rfl, hx1⟩
       rw [Hu.out]
       have hc := hx1.bcell.1 w.heap.size
       simp at hc
       go_wp2_with fail
       clear hc
       go_loopw [7, 34] (fun v i wr => PlaceRelI w #[.string nm, .int .i64 top, .int .i64 hgt, .int .i64 lft, .int .i64 wid, .int .u8 al, .bool true] ⟨nm, top, hgt, lft, wid, al, true⟩ (top + (hgt - n)) n lens v i wr) (fun _ i _ => n - (intOf i).toNat)
       case atStart => exact ⟨0, Nat.zero_le _, rfl, hx1, rfl, ⟨by simp [Reg.spots], .inl ⟨rfl, rfl⟩⟩⟩
       case round =>
        obtain ⟨k, hk, rfl, hx, hp, hown⟩ := hrel
        have HPr := Lib.hid hp
        clear hp
        have hB := Lib.hid (Blk.ext (Blk.new w _ _) hx)
        have hxw : Ext w wr := ((Ext.refl w).alloc _).trans hx
        have hc := fun o => hB.out.cell o
        have hsz : w.heap.size < wr.heap.size := hB.out.lt
        have hne : w.heap.size ≠ wr.heap.size := by omega
        by_cases hlt : k < n
        · obtain ⟨b, off, x, rfl, hxx, hcell⟩ := (HL.out.ext hxw).cell hlt
          have HX := Lib.hid hxx
          have HE := Lib.hid (lensErr_drop ⟨nm, top, hgt, lft, wid, al, true⟩ lens k x hxx)
          have HT := Lib.hid (take_snoc' lens k x hxx)
          have hkl : Hid ((lens.take k).length = k) := by show (lens.take k).length = k; rw [List.length_take, HLn.out]; omega
          clear hxx
          by_cases hneg : x < 0
          · go_wp2_with fail
            go_ret2
            exact placePost_err (k := 2) (by rw [HP.out, HPr.out, HE.out, if_pos (by omega)]) (by decide) rfl hxw
          · by_cases hwide : wid < x
            · go_wp2_with fail
              go_ret2
              exact placePost_err (k := 11) (by rw [HP.out, HPr.out, HE.out, if_neg (by omega), if_pos (by omega)]) (by decide) rfl hxw
            · have HS := Lib.hid (spots_snoc ⟨nm, top, hgt, lft, wid, al, true⟩ (top + (hgt - n)) (lens.take k) 0 x)
              have hE2 : Hid (Reg.lensErr ⟨nm, top, hgt, lft, wid, al, true⟩ lens = Reg.lensErr ⟨nm, top, hgt, lft, wid, al, true⟩ (lens.drop (k + 1))) := by
               show _ = _
               rw [HPr.out, HE.out, if_neg (by omega), if_neg (by omega)]
              by_cases ha3 : (al == 3) = true
              · have hal : al = 3 := by simpa using ha3
                have HSp : Hid (Reg.spot ⟨nm, top, hgt, lft, wid, al, true⟩ (top + (hgt - n)) (0 + (lens.take k).length) x = ⟨top + (hgt - n) + k, lft + (wid - x), x⟩) := by
                 show _ = _
                 rw [hkl.out]; unfold Reg.spot; simp [hal]
                clear hal
                go_wp2_with (at_builtin; refine wpList_append1 rfl (.tmp 75) (.tmp 77) 167 rfl info_spot Tryz.underlying167 rfl (by decide) ((hown.alloc _).alloc _) (by exact rfl) (wr.heap.size + 1) _ (by exact rfl) (by exact Blk.new' (by simp)) (by exact rfl) (by simp [Value.oneCell']) (by omega) (by simp [maxLen]; omega) (by simp; omega) ?_; intro v' w' hown' hgr)
                refine ⟨⟨k + 1, by omega, by go_num, ((hx.alloc _).alloc _).grown hgr (fun q hq => by have := own_lt hown q hq; simpa using this), hE2.out, ?_⟩, by simp [intOf]; omega⟩
                rw [HT.out, HS.out, List.flatMap_append, HSp.out]
                exact hown'
              · have ha3' : (al == 3) = false := by simpa using ha3
                clear ha3
                have hn3 : ¬ al = 3 := by simpa using ha3'
                by_cases ha2 : (al == 2) = true
                · have hal : al = 2 := by simpa using ha2
                  have HSp : Hid (Reg.spot ⟨nm, top, hgt, lft, wid, al, true⟩ (top + (hgt - n)) (0 + (lens.take k).length) x = ⟨top + (hgt - n) + k, lft + (wid - x) / 2, x⟩) := by
                   show _ = _
                   rw [hkl.out]; unfold Reg.spot; simp [hal]
                  clear hal hn3
                  go_wp2_with (at_builtin; refine wpList_append1 rfl (.tmp 75) (.tmp 77) 167 rfl info_spot Tryz.underlying167 rfl (by decide) ((hown.alloc _).alloc _) (by exact rfl) (wr.heap.size + 1) _ (by exact rfl) (by exact Blk.new' (by simp)) (by exact rfl) (by simp [Value.oneCell']) (by omega) (by simp [maxLen]; omega) (by simp; omega) ?_; intro v' w' hown' hgr)
                  refine ⟨⟨k + 1, by omega, by go_num, ((hx.alloc _).alloc _).grown hgr (fun q hq => by have := own_lt hown q hq; simpa using this), hE2.out, ?_⟩, by simp [intOf]; omega⟩
                  rw [HT.out, HS.out, List.flatMap_append, HSp.out]
                  exact hown'
                · have ha2' : (al == 2) = false := by simpa using ha2
                  clear ha2
                  have hn2 : ¬ al = 2 := by simpa using ha2'
                  have HSp : Hid (Reg.spot ⟨nm, top, hgt, lft, wid, al, true⟩ (top + (hgt - n)) (0 + (lens.take k).length) x = ⟨top + (hgt - n) + k, lft, x⟩) := by
                   show _ = _
                   rw [hkl.out]; unfold Reg.spot; simp [hn3, hn2]
                  clear hn2 hn3
                  go_wp2_with (at_builtin; refine wpList_append1 rfl (.tmp 75) (.tmp 77) 167 rfl info_spot Tryz.underlying167 rfl (by decide) ((hown.alloc _).alloc _) (by exact rfl) (wr.heap.size + 1) _ (by exact rfl) (by exact Blk.new' (by simp)) (by exact rfl) (by simp [Value.oneCell']) (by omega) (by simp [maxLen]; omega) (by simp; omega) ?_; intro v' w' hown' hgr)
                  refine ⟨⟨k + 1, by omega, by go_num, ((hx.alloc _).alloc _).grown hgr (fun q hq => by have := own_lt hown q hq; simpa using this), hE2.out, ?_⟩, by simp [intOf]; omega⟩
                  rw [HT.out, HS.out, List.flatMap_append, HSp.out]
                  exact hown'
        · have hkn : k = n := by omega
          subst hkn
          have HD : Hid (lens.drop k = []) := List.drop_eq_nil_of_le (by rw [HLn.out]; omega)
          have HTk : Hid (lens.take k = lens) := List.take_of_length_le (by rw [HLn.out]; omega)
          have HO := Lib.hid hown
          clear hown
          go_wp2_with fail
          go_ret2
          exact placePost_ok (by rw [HP.out, HPr.out, HD.out]; rfl) (by rw [HLn.out]; rfl) (HTk.out ▸ HO.out) (by rw [HLn.out]) hxw
end
section
open Go.RowKit
def RegsAt (w : World) (A : Option Addr) (n : Nat) (l : List Reg) : Prop := Sl w 7 RegC A n l
theorem RegsAt.ext {w w1 : World} {A : Option Addr} {n : Nat} {l : List Reg} (h : RegsAt w A n l) (k : Ext w w1) : RegsAt w1 A n l := Sl.ext RegC.stays h k
def findR (l : List Reg) (nm : ByteArray) : Option Reg := if nm.toList = [] then some Reg.default else l.find? (fun r => r.name.toList == nm.toList)
def regZero : Array Value := #[.string ⟨#[]⟩, .int .i64 0, .int .i64 0, .int .i64 0, .int .i64 0, .int .u8 0, .bool false]
def FindRel (w : World) (A : Option Addr) (n : Nat) (l : List Reg) (nm : ByteArray) (i : Value) (wr : World) : Prop :=
 ∃ k : Nat, k ≤ n ∧ i = .int .i64 k ∧ Ext (w.alloc (.cells regZero 53)) wr ∧ l.find? (fun r => r.name.toList == nm.toList) = (l.drop k).find? (fun r => r.name.toList == nm.toList)
theorem info_reg : (Tryz.prog.info? 53).map (·.size) = some 7 := by kernel_rfl
theorem find_ret {w' : World} {g : Nat} {r : Reg} {b : Bool} {tmps : Array Value} (hB : Blk w' g 53 #[.string r.name, .int .i64 r.top, .int .i64 r.height, .int .i64 r.left, .int .i64 r.width, .int .u8 r.align, .bool r.bottom])
 (h4 : tmps.getD 4 undef = .pointer (some ⟨g, 0, none⟩)) (h5 : tmps.getD 5 undef = .bool b) : (results Tryz.f78 tmps).run Tryz.prog w' = .ok (.tuple #[r.val, .bool b]) w' := by
 rw [results_B_tmp (P := Tryz.prog) Tryz.results78 h4 hB Tryz.underlying53 rfl info_reg, h5]
 rfl
set_option maxHeartbeats 1000000 in
theorem Find_any (A : Option Addr) (n c : Nat) (l : List Reg) (nm : ByteArray) (w : World) (hl : RegsAt w A n l) (hn : n ≤ 9223372036854775807) :
 Calls Tryz.prog 78 #[.slice A n c, .string nm] w fun e w' => e = .returned (.tuple #[((findR l nm).getD Reg.zero).val, .bool (findR l nm).isSome]) ∧ Ext w w' := by
 by_cases h0 : nm.toList = []
 · have HF : Hid (findR l nm = some Reg.default) := by show findR l nm = _; unfold findR; rw [if_pos h0]
   have h0' : nm.toList.isEmpty = true := by rw [h0]; rfl
   clear h0
   go_enter Tryz.func78, Tryz.ntmps78
   go_wp2_with fail
   refine (Default_any _).mono ?_
   rintro e w1 ⟨rfl, hx1⟩
   unfold Reg.val Reg.default
   dsimp only
   have hB := Lib.hid (Blk.ext (Blk.new w _ _) hx1)
   go_wp2_with (refine wpList_storeB rfl 53 (.tmp 4) (.tmp 10) rfl w.heap.size 53 _ _ (by exact rfl) (by exact rfl) hB.out (by exact rfl) (by exact info_reg) (by simp [Value.oneCell']) ?_)
   refine bodyPost_ret (v := .tuple #[Reg.default.val, .bool true]) ?_ rfl ⟨?_, ?_⟩
   · exact find_ret (r := Reg.default) (hB.out.put _) rfl rfl
   · rw [HF.out]; rfl
   · exact (((Ext.refl w).alloc _).trans hx1).put (Nat.le_refl _) _ _
 · have HF : Hid (findR l nm = l.find? (fun r => r.name.toList == nm.toList)) := by show findR l nm = _; unfold findR; rw [if_neg h0]
   have h0' : nm.toList.isEmpty = false := by cases h : nm.toList with
    | nil => exact absurd h h0
    | cons a b => rfl
   clear h0
   have HL := Lib.hid hl
   clear hl
   go_enter Tryz.func78, Tryz.ntmps78
   go_wp2_with fail
   go_loopw [13] (fun i wr => FindRel w A n l nm i wr) (fun i _ => n - (intOf i).toNat)
   case atStart => exact ⟨0, Nat.zero_le _, rfl, Ext.refl _, rfl⟩
   case round =>
    obtain ⟨k, hk, rfl, hx, hp⟩ := hrel
    have HP := Lib.hid hp
    clear hp
    have hB := Lib.hid (Blk.ext (Blk.new w _ _) hx)
    have hxw : Ext w wr := ((Ext.refl w).alloc _).trans hx
    by_cases hlt : k < n
    · obtain ⟨b, off, r, rfl, hr, hC⟩ := (HL.out.ext hxw).at_ hlt
      have HR := Lib.hid hr
      clear hr
      obtain ⟨c0, c1, c2, c3, c4, c5, c6⟩ := hC
      have hdrop : Hid (l.drop k = r :: l.drop (k + 1)) := by
       show l.drop k = _
       have hkl := (List.getElem?_eq_some_iff.1 HR.out).1
       rw [List.drop_eq_getElem_cons hkl]
       congr 1
       exact (List.getElem?_eq_some_iff.1 HR.out).2
      by_cases hq : (r.name.toList == nm.toList) = true
      · go_wp2_with (refine wpList_storeB rfl 53 (.tmp 4) (.tmp 21) rfl w.heap.size 53 _ _ (by exact rfl) (by exact rfl) (hB.out.alloc _) (by exact rfl) (by exact info_reg) (by simp [Value.oneCell']) ?_)
        refine bodyPost_ret (v := .tuple #[r.val, .bool true]) ?_ rfl ⟨?_, ?_⟩
        · exact find_ret (r := r) ((hB.out.alloc _).put _) rfl rfl
        · rw [HF.out, HP.out, hdrop.out, List.find?_cons, hq]; rfl
        · exact (hxw.alloc _).put (Nat.le_refl _) _ _
      · have hq' : (r.name.toList == nm.toList) = false := by simpa using hq
        clear hq
        go_wp2_with fail
        refine ⟨⟨k + 1, by omega, by go_num, hx.alloc _, ?_⟩, by simp [intOf]; omega⟩
        rw [HP.out, hdrop.out, List.find?_cons, hq']
    · have hend : Hid (l.drop k = []) := List.drop_eq_nil_of_le (by rw [HL.out.len]; omega)
      go_wp2_with (refine wpList_storeB rfl 53 (.tmp 4) (.tmp 23) rfl w.heap.size 53 _ _ (by exact rfl) (by exact rfl) hB.out (by exact rfl) (by exact info_reg) (by simp [Value.oneCell']) ?_)
      refine bodyPost_ret (v := .tuple #[Reg.zero.val, .bool false]) ?_ rfl ⟨?_, ?_⟩
      · exact find_ret (r := Reg.zero) (hB.out.put _) rfl rfl
      · rw [HF.out, HP.out, hend.out]; rfl
      · exact hxw.put (Nat.le_refl _) _ _
end
section
open Go.RowKit
structure Ev where
 id : Int
 inn : Int
 out : Int
 region : ByteArray
 kind : Int
 speaker : ByteArray
 rows : List Row
 deriving DecidableEq
def Ev.cells (e : Ev) (A : Option Addr) (n c : Nat) : Array Value := #[.int .i64 e.id, .int .i64 e.inn, .int .i64 e.out, .string e.region, .int .u8 e.kind, .string e.speaker, .slice A n c]
def EvAt (w : World) (e : Ev) (A : Option Addr) (n c : Nat) : Prop := RowsAt w A n e.rows ∧ n ≤ c ∧ n * 24 ≤ 140737488355328
theorem EvAt.ext {w w1 : World} {e : Ev} {A : Option Addr} {n c : Nat} (h : EvAt w e A n c) (k : Ext w w1) : EvAt w1 e A n c := ⟨h.1.ext k, h.2⟩
theorem EvAt.len {w : World} {e : Ev} {A : Option Addr} {n c : Nat} (h : EvAt w e A n c) : e.rows.length = n := h.1.len
def RowSmall (r : Row) : Prop := rowBytes r < 4294967281 ∧ ∀ x ∈ r, x.text.size ≤ 4611686018427387904 ∧ x.ruby.size ≤ 4611686018427387904
def EvSmall (e : Ev) : Prop := e.region.size ≤ 9223372036854775807 ∧ e.speaker.size ≤ 9223372036854775807 ∧ ∀ r ∈ e.rows, RowSmall r
def LensPost (e : Ev) (w : World) (en : Ending) (w' : World) : Prop :=
 ∃ A n c, en = .returned (.slice A n c) ∧ IntsAt w' A n (e.rows.map rowLen) ∧ n ≤ c ∧ Ext w w'
def LensRel (w : World) (bx : Array Value) (n : Nat) (rows : List Row) (v i : Value) (wr : World) : Prop :=
 ∃ k : Nat, k ≤ n ∧ i = .int .i64 k ∧ Ext (w.alloc (.cells bx 60)) wr ∧ wr.ownsRow (w.heap.size + 1) 3 1 v k (((rows.take k).map rowLen).flatMap fun x => [Value.int .i64 x])
theorem info_int : (Tryz.prog.info? 3).map (fun i => (i.zero, i.size, i.bytes)) = some (some (.int .i64 0), 1, 8) := by kernel_rfl
theorem lensPost_ok {e : Ev} {w w' : World} {v : Value} {n base : Nat} (hn : e.rows.length = n) (hown : w'.ownsRow base 3 1 v n ((e.rows.map rowLen).flatMap fun x => [Value.int .i64 x])) (hx : Ext w w') : LensPost e w (.returned v) w' := by
 have hl : (e.rows.map rowLen).length = n := by rw [List.length_map, hn]
 obtain ⟨A, c, rfl, hc, _, hsl, _⟩ := own_sl (f := fun x : Int => [Value.int .i64 x]) (size := 1) (fun _ => rfl) hl hown
 exact ⟨A, n, c, rfl, hsl, hc, hx⟩
set_option maxRecDepth 100000 in
set_option maxHeartbeats 2000000 in
theorem lens_any (e : Ev) (A : Option Addr) (n c : Nat) (w : World) (hE : Env w) (he : EvAt w e A n c) (hb : ∀ r ∈ e.rows, RowSmall r) :
 Calls Tryz.prog 82 #[.agg (e.cells A n c)] w (LensPost e w) := by
 have hn24 : n * 24 ≤ 140737488355328 := by have := he.2; omega
 have HA := Lib.hid he.1
 have HLn := Lib.hid he.len
 have HEn := Lib.hid hE
 have HBd := Lib.hid hb
 clear he hE hb
 unfold Ev.cells
 go_enter Tryz.func82, Tryz.ntmps82
 go_wp2_with fail
 go_loopw [3, 9] (fun v i wr => LensRel w #[.int .i64 e.id, .int .i64 e.inn, .int .i64 e.out, .string e.region, .int .u8 e.kind, .string e.speaker, .slice A n c] n e.rows v i wr) (fun _ i _ => n - (intOf i).toNat)
 case atStart => exact ⟨0, Nat.zero_le _, rfl, Ext.refl _, ⟨rfl, .inl ⟨rfl, rfl⟩⟩⟩
 case round =>
  obtain ⟨k, hk, rfl, hx, hown⟩ := hrel
  have hxw : Ext w wr := ((Ext.refl w).alloc _).trans hx
  by_cases hlt : k < n
  · obtain ⟨b, off, r, rfl, hr, A', n', c', hcell, hnc, hc40, hruns⟩ := (HA.out.ext hxw).at_ hlt
    simp only [Nat.mul_one] at hcell
    have HR := Lib.hid hruns
    have hsm := HBd.out r (List.mem_of_getElem? hr)
    have HT := Lib.hid (take_snoc' e.rows k r hr)
    have hrb : rowBytes r < 4294967281 := hsm.1
    clear hr hruns hsm
    go_wp2_with fail
    refine (SLen_any A' n' c' r _ (HEn.out.ext (hxw.alloc _)) (HR.out.ext ((Ext.refl wr).alloc _)) (by omega) (by omega)).mono ?_
    rintro en w2 ⟨rfl, hx2⟩
    have HO2 := Lib.hid (own_ext (hown.alloc (.cells #[.slice A' n' c'] 78)) hx2)
    have hsz2 := hx.size
    have hsz3 := hx2.size
    simp only [World.size_alloc] at hsz2 hsz3
    go_wp2_with (at_builtin; refine wpList_append1 rfl (.tmp 13) (.tmp 16) 170 rfl info_int Tryz.underlying170 rfl (by decide) (HO2.out.alloc _) (by exact rfl) w2.heap.size _ (by exact rfl) (by exact Blk.new' rfl) (by exact rfl) (by simp [Value.oneCell']) (by omega) (by simp [maxLen]; omega) (by simp; omega) ?_; intro v' w3 hown3 hgr)
    refine ⟨⟨k + 1, by omega, by go_num, ((hx.alloc _).trans (hx2.alloc _)).grown hgr (fun q hq => by have := own_lt hown q hq; simpa using this), ?_⟩, by simp [intOf]; omega⟩
    rw [HT.out, List.map_append, List.flatMap_append]
    exact hown3
  · have hkn : k = n := by omega
    subst hkn
    have HT : Hid (e.rows.take k = e.rows) := List.take_of_length_le (by rw [HLn.out]; omega)
    have HO := Lib.hid hown
    clear hown
    go_wp2_with fail
    go_ret
    exact lensPost_ok HLn.out (by have := HO.out; rw [HT.out] at this; exact this) hxw
end
section
open Go.RowKit
def Fresh (w : World) (T : TypeId) (L : Nat) (A : Option Addr) : Prop := ∀ ad, A = some ad → L ≤ ad.block ∧ Typed w T ad.block
theorem Fresh.le {w : World} {T : TypeId} {L L' : Nat} {A : Option Addr} (h : Fresh w T L A) (hl : L' ≤ L) : Fresh w T L' A := fun ad e => ⟨Nat.le_trans hl (h ad e).1, (h ad e).2⟩
theorem Fresh.ext {w w1 : World} {T : TypeId} {L : Nat} {A : Option Addr} (h : Fresh w T L A) (k : Ext w w1) : Fresh w1 T L A := fun ad e => ⟨(h ad e).1, (h ad e).2.ext k⟩
theorem Fresh.setCell {w : World} {T : TypeId} {L : Nat} {A : Option Addr} (h : Fresh w T L A) (p : Addr) (u : Value) : Fresh (w.setCell p u) T L A := fun ad e => ⟨(h ad e).1, (h ad e).2.setCell p u⟩
theorem Fresh.grown {w w1 : World} {T T' : TypeId} {L : Nat} {A : Option Addr} {row : Option Nat} (h : Fresh w T L A) (hg : w.grownBy w1 row) (hr : ∀ q, row = some q → Typed w T' q) (hne : T ≠ T') : Fresh w1 T L A := fun ad e => ⟨(h ad e).1, (h ad e).2.grown hg hr hne⟩
theorem Fresh.put {w : World} {T t : TypeId} {L g : Nat} {A : Option Addr} {cs : Array Value} (h : Fresh w T L A) (hB : Blk w g t cs) (cs' : Array Value) (hne : T ≠ t) : Fresh (putB w g t cs') T L A := fun ad e => ⟨(h ad e).1, (h ad e).2.put hB cs' hne⟩
theorem Fresh.of_own {w : World} {base : Nat} {e : TypeId} {size n m c : Nat} {A : Option Addr} {xs : List Value} (h : w.ownsRow base e size (.slice A m c) n xs) : Fresh w e base A := fun ad hA => by
 subst hA
 exact ⟨own_lt h _ rfl, own_typed h _ rfl⟩
def Run.cells (r : Run) : List Value := [.string r.text, .int .u8 r.color, .bool r.italic, .bool r.under, .string r.ruby]
theorem runC_cells {w : World} {b o : Nat} {r : Run} (h : RunC w b o r) : Cells Run.cells w b o r := by
 obtain ⟨h0, h1, h2, h3, h4⟩ := h
 intro j u hu
 match j, hu with
 | 0, hu => simp [Run.cells] at hu; subst hu; exact h0
 | 1, hu => simp [Run.cells] at hu; subst hu; exact h1
 | 2, hu => simp [Run.cells] at hu; subst hu; exact h2
 | 3, hu => simp [Run.cells] at hu; subst hu; exact h3
 | 4, hu => simp [Run.cells] at hu; subst hu; exact h4
 | j + 5, hu => simp [Run.cells] at hu
theorem cells_runC {w : World} {b o : Nat} {r : Run} (h : Cells Run.cells w b o r) : RunC w b o r := ⟨h 0 _ rfl, h 1 _ rfl, h 2 _ rfl, h 3 _ rfl, h 4 _ rfl⟩
theorem RunsAt.cells {w : World} {A : Option Addr} {n : Nat} {l : Row} (h : RunsAt w A n l) : Sl w 5 (Cells Run.cells) A n l := Sl.change h fun _ _ _ => runC_cells
theorem RunsAt.of_cells {w : World} {A : Option Addr} {n : Nat} {l : Row} (h : Sl w 5 (Cells Run.cells) A n l) : RunsAt w A n l := Sl.change h fun _ _ _ => cells_runC
theorem info_run : (Tryz.prog.info? 83).map (fun i => (i.zero, i.size, i.bytes)) = some (some (.agg #[.string ⟨#[]⟩, .int .u8 0, .bool false, .bool false, .string ⟨#[]⟩]), 5, 40) := by kernel_rfl
theorem info_row : (Tryz.prog.info? 78).map (fun i => (i.zero, i.size, i.bytes)) = some (some (.agg #[.slice none 0 0]), 1, 24) := by kernel_rfl
def CloneRunsPost (l : Row) (n : Nat) (w : World) (e : Ending) (w' : World) : Prop :=
 ∃ A c, e = .returned (.slice A n c) ∧ n ≤ c ∧ RunsAt w' A n l ∧ Fresh w' 83 w.heap.size A ∧ Ext w w'
abbrev Hd := Option Addr × Nat × Nat
def Hd.val (h : Hd) : Value := .slice h.1 h.2.1 h.2.2
def Good (w : World) (h : Hd) (r : Row) : Prop := h.2.1 ≤ h.2.2 ∧ h.2.1 * 40 ≤ 140737488355328 ∧ RunsAt w h.1 h.2.1 r
theorem Good.ext {w w1 : World} {h : Hd} {r : Row} (g : Good w h r) (k : Ext w w1) : Good w1 h r := ⟨g.1, g.2.1, g.2.2.ext k⟩
def Goods (w : World) (hs : List Hd) (l : List Row) : Prop := ∀ (i : Nat) (h : Hd) (r : Row), hs[i]? = some h → l[i]? = some r → Good w h r
def HdsAt (w : World) (A : Option Addr) (n : Nat) (hs : List Hd) : Prop := Sl w 1 (Cells fun h => [Hd.val h]) A n hs
theorem rows_of_heads {w : World} {A : Option Addr} {n : Nat} {l : List Row} {hs : List Hd} (h : HdsAt w A n hs) (hl : l.length = n) (hg : Goods w hs l) : RowsAt w A n l := by
 refine ⟨hl, fun hn => ?_⟩
 obtain ⟨b, off, hA, hc⟩ := h.2 hn
 refine ⟨b, off, hA, fun i r hr => ?_⟩
 have hi : i < hs.length := by
  rw [h.len, ← hl]
  exact (List.getElem?_eq_some_iff.1 hr).1
 have hx : hs[i]? = some hs[i] := List.getElem?_eq_getElem hi
 have g := hg i _ r hx hr
 exact ⟨_, _, _, hc i _ hx 0 _ rfl, g.1, g.2.1, g.2.2⟩
def CloneHdsPost (hs : List Hd) (n : Nat) (w : World) (e : Ending) (w' : World) : Prop :=
 ∃ A c, e = .returned (.slice A n c) ∧ w'.ownsRow w.heap.size 78 1 (.slice A n c) n (hs.flatMap fun h => [Hd.val h]) ∧ Ext w w'
def RowsFresh (w : World) (L : Nat) (A : Option Addr) (n : Nat) (l : List Row) : Prop :=
 ∃ hs : List Hd, HdsAt w A n hs ∧ Goods w hs l ∧ l.length = n ∧ Fresh w 78 L A ∧ ∀ h ∈ hs, Fresh w 83 L h.1
theorem RowsFresh.rows {w : World} {L : Nat} {A : Option Addr} {n : Nat} {l : List Row} (h : RowsFresh w L A n l) : RowsAt w A n l := by
 obtain ⟨hs, h1, h2, h3, _⟩ := h
 exact rows_of_heads h1 h3 h2
theorem RowsFresh.ext {w w1 : World} {L : Nat} {A : Option Addr} {n : Nat} {l : List Row} (h : RowsFresh w L A n l) (k : Ext w w1) : RowsFresh w1 L A n l := by
 obtain ⟨hs, h1, h2, h3, h4, h5⟩ := h
 exact ⟨hs, Sl.ext (Cells.stays _) h1 k, fun i hd r a b => (h2 i hd r a b).ext k, h3, h4.ext k, fun x hx => (h5 x hx).ext k⟩
theorem RowsFresh.le {w : World} {L L' : Nat} {A : Option Addr} {n : Nat} {l : List Row} (h : RowsFresh w L A n l) (hl : L' ≤ L) : RowsFresh w L' A n l := by
 obtain ⟨hs, h1, h2, h3, h4, h5⟩ := h
 exact ⟨hs, h1, h2, h3, h4.le hl, fun x hx => (h5 x hx).le hl⟩
def Apart (g : Nat) (h : Hd) : Prop := 0 < h.2.1 → ∀ ad, h.1 = some ad → ad.block ≠ g
theorem Sl.keep {α : Type} {C : World → Nat → Nat → α → Prop} {w w1 : World} {size n : Nat} {A : Option Addr} {l : List α} (h : Sl w size C A n l) (hk : 0 < n → ∀ b off, A = some ⟨b, off, none⟩ → ∀ o x, C w b o x → C w1 b o x) : Sl w1 size C A n l :=
 ⟨h.1, fun hn => (h.2 hn).elim fun b hb => hb.elim fun off ho => ⟨b, off, ho.1, fun i x hx => hk hn b off ho.1 _ _ (ho.2 i x hx)⟩⟩
theorem RunC.set {w : World} {b o : Nat} {r : Run} (h : RunC w b o r) {p : Addr} (hp : b ≠ p.block) (u : Value) : RunC (w.setCell p u) b o r := by
 have key : ∀ q v, w.cell? ⟨b, q, none⟩ = some v → (w.setCell p u).cell? ⟨b, q, none⟩ = some v := fun q v hv => by
  rw [World.cell?_setCell_other w p ⟨b, q, none⟩ u (fun e => hp (by rw [e]))]; exact hv
 exact ⟨key _ _ h.1, key _ _ h.2.1, key _ _ h.2.2.1, key _ _ h.2.2.2.1, key _ _ h.2.2.2.2⟩
theorem Good.set {w : World} {h : Hd} {r : Row} (g : Good w h r) {p : Addr} (hp : Apart p.block h) (u : Value) : Good (w.setCell p u) h r :=
 ⟨g.1, g.2.1, Sl.keep g.2.2 fun hn b off hA o x hx => hx.set (hp hn _ hA) u⟩
def RowsOwn (w : World) (L : Nat) (A : Option Addr) (n c : Nat) (l : List Row) : Prop :=
 ∃ hs : List Hd, w.ownsRow L 78 1 (.slice A n c) n (hs.flatMap fun h => [Hd.val h]) ∧ hs.length = n ∧ Goods w hs l ∧ l.length = n ∧ ∀ h ∈ hs, Fresh w 83 L h.1
theorem RowsOwn.fresh {w : World} {L : Nat} {A : Option Addr} {n c : Nat} {l : List Row} (h : RowsOwn w L A n c l) : RowsFresh w L A n l := by
 obtain ⟨hs, h1, h2, h3, h4, h5⟩ := h
 obtain ⟨A', c', hv, _, _, hsl, _⟩ := own_sl (f := fun h : Hd => [Hd.val h]) (size := 1) (fun _ => rfl) h2 h1
 injection hv with e1 e2 e3
 subst e1 e3
 exact ⟨hs, hsl, h3, h4, Fresh.of_own h1, h5⟩
theorem RowsOwn.ext {w w1 : World} {L : Nat} {A : Option Addr} {n c : Nat} {l : List Row} (h : RowsOwn w L A n c l) (k : Ext w w1) : RowsOwn w1 L A n c l := by
 obtain ⟨hs, h1, h2, h3, h4, h5⟩ := h
 exact ⟨hs, own_ext h1 k, h2, fun i hd r a b => (h3 i hd r a b).ext k, h4, fun x hx => (h5 x hx).ext k⟩
theorem own_le {w : World} {L L' : Nat} {e : TypeId} {size : Nat} {v : Value} {n : Nat} {xs : List Value} (h : w.ownsRow L e size v n xs) (hl : L' ≤ L) : w.ownsRow L' e size v n xs := by
 refine ⟨h.1, ?_⟩
 rcases h.2 with hn | ⟨g, cap, cur, rfl, hb, rest⟩
 · exact .inl hn
 · exact .inr ⟨g, cap, cur, rfl, Nat.le_trans hl hb, rest⟩
theorem RowsOwn.le {w : World} {L L' : Nat} {A : Option Addr} {n c : Nat} {l : List Row} (h : RowsOwn w L A n c l) (hl : L' ≤ L) : RowsOwn w L' A n c l := by
 obtain ⟨hs, h1, h2, h3, h4, h5⟩ := h
 exact ⟨hs, own_le h1 hl, h2, h3, h4, fun x hx => (h5 x hx).le hl⟩
def SOwnPost (rows : List Row) (n : Nat) (w : World) (e : Ending) (w' : World) : Prop :=
 ∃ A c, e = .returned (.slice A n c) ∧ n ≤ c ∧ RowsOwn w' w.heap.size A n c rows ∧ Ext w w'
def SCloneRel (w : World) (rows : List Row) (A : Option Addr) (n c : Nat) (i : Value) (wr : World) : Prop :=
 ∃ (k : Nat) (hs : List Hd), k ≤ n ∧ i = .int .i64 k ∧ hs.length = n ∧ wr.ownsRow w.heap.size 78 1 (.slice A n c) n (hs.flatMap fun h => [Hd.val h]) ∧ Ext w wr ∧ Goods wr hs rows ∧
  (∀ ad, A = some ad → ∀ h ∈ hs, Apart ad.block h) ∧ (∀ j h, j < k → hs[j]? = some h → Fresh wr 83 w.heap.size h.1)
def SClonePost (rows : List Row) (n : Nat) (w : World) (e : Ending) (w' : World) : Prop :=
 ∃ A c, e = .returned (.slice A n c) ∧ n ≤ c ∧ RowsFresh w' w.heap.size A n rows ∧ Ext w w'
end
section
open Go.RowKit Go.ChangeShapes Go.WideShapes Go.ChangeAt
set_option maxRecDepth 100000
theorem cells_color : Tryz.prog.cellsOf 79 = 1 := by kernel_rfl
theorem cells_style : Tryz.prog.cellsOf 81 = 3 := by kernel_rfl
theorem cells_run : Tryz.prog.cellsOf 83 = 5 := by kernel_rfl
theorem cells_row : Tryz.prog.cellsOf 78 = 1 := by kernel_rfl
theorem cells_runs : Tryz.prog.cellsOf 76 = 1 := by kernel_rfl
theorem cells_rows : Tryz.prog.cellsOf 58 = 1 := by kernel_rfl
theorem cells_kind : Tryz.prog.cellsOf 57 = 1 := by kernel_rfl
theorem cells_event : Tryz.prog.cellsOf 60 = 7 := by kernel_rfl
theorem bytes_run : Tryz.prog.bytesOf 83 = 40 := by kernel_rfl
theorem bytes_row : Tryz.prog.bytesOf 78 = 24 := by kernel_rfl
def Run.Fits (r : Run) : Prop := r.text.size ≤ 140737488351232 ∧ r.ruby.size ≤ 140737488351232 ∧ 0 ≤ r.color ∧ r.color ≤ 255
theorem open_style (W : World) : Opens Tryz.prog W 81 (fun cs (a : Int × Bool × Bool) => cs = [.int .u8 a.1, .bool a.2.1, .bool a.2.2] ∧ 0 ≤ a.1 ∧ a.1 ≤ 255) := by
 intro H enc fuel cs x h hw
 obtain ⟨hl, hf⟩ := Opens.fields Tryz.underlying81 h hw
 rw [cells_style] at hl
 obtain ⟨v0, v1, v2, rfl⟩ := list_3 hl
 obtain ⟨a0, h0, s0⟩ := hf 0 _ rfl (Opens.int Tryz.underlying79)
 obtain ⟨a1, h1⟩ := hf 1 _ rfl (Opens.bool Tryz.underlying4)
 obtain ⟨a2, h2⟩ := hf 2 _ rfl (Opens.bool Tryz.underlying4)
 simp [cells_color, cells_bool] at h0 h1 h2
 subst h0 h1 h2
 exact ⟨(a0, a1, a2), rfl, bounds_u8 s0⟩
def RowFits (r : Row) : Prop := (∀ x ∈ r, x.Fits) ∧ r.length * 40 ≤ 140737488351232
def Ev.Fits (e : Ev) : Prop := e.region.size ≤ 140737488351232 ∧ e.speaker.size ≤ 140737488351232 ∧ (0 ≤ e.kind ∧ e.kind ≤ 255) ∧ (-9223372036854775808 ≤ e.id ∧ e.id ≤ 9223372036854775807) ∧ (-9223372036854775808 ≤ e.inn ∧ e.inn ≤ 9223372036854775807) ∧ (-9223372036854775808 ≤ e.out ∧ e.out ≤ 9223372036854775807) ∧ (∀ r ∈ e.rows, RowFits r) ∧ e.rows.length * 24 ≤ 140737488351232
def wzero {H : Type} : DataW H := .agg [.lit (.int .i64 0), .agg [.lit (.int .i64 0), .lit (.int .i64 0)], .lit (.string []), .lit (.int .u8 0), .lit (.string []), .nil]
end
section
structure Nd where
 name : ByteArray
 text : ByteArray
 attrs : List (ByteArray × ByteArray)
 depth : Nat
 deriving DecidableEq
def letB (c : UInt8) : Bool := decide (97 ≤ c.toNat ∧ c.toNat ≤ 122) || decide (65 ≤ c.toNat ∧ c.toNat ≤ 90)
def nmcB (c : UInt8) : Bool := letB c || decide (48 ≤ c.toNat ∧ c.toNat ≤ 57) || decide (c.toNat = 45)
def xnmL : List UInt8 → Bool
 | [] => false
 | c :: l => letB c && (c :: l).all nmcB && decide (l.length < 32)
def xnm (s : ByteArray) : Bool := xnmL s.data.toList
theorem xnm_ne {s : ByteArray} (h : xnm s = true) : s.data.toList ≠ [] := fun e => by unfold xnm at h; rw [e] at h; simp [xnmL] at h
theorem size_toList (s : ByteArray) : s.data.toList.length = s.size := by rw [Array.length_toList]; rfl
theorem xnm_pos {s : ByteArray} (h : xnm s = true) : s.size ≠ 0 := fun e => xnm_ne h (List.eq_nil_of_length_eq_zero (by rw [size_toList, e]))
def escB (b : UInt8) : List UInt8 :=
 if b = 38 then [38, 97, 109, 112, 59] else if b = 60 then [38, 108, 116, 59] else if b = 62 then [38, 103, 116, 59] else if b = 34 then [38, 113, 117, 111, 116, 59] else if b = 39 then [38, 97, 112, 111, 115, 59] else [b]
def esc (l : List UInt8) : List UInt8 := l.flatMap escB
def escS (s : ByteArray) : ByteArray := ⟨(esc s.data.toList).toArray⟩
inductive Tk where
 | txt (s : ByteArray)
 | fin (n : ByteArray)
 | beg (n : ByteArray) (al : List (ByteArray × ByteArray))
 | emp (n : ByteArray) (al : List (ByteArray × ByteArray))
def attrL (a : ByteArray × ByteArray) : List UInt8 := 32 :: (a.1.data.toList ++ ([61, 34] ++ (esc a.2.data.toList ++ [34])))
def Tk.bytes : Tk → List UInt8
 | .txt s => esc s.data.toList
 | .fin n => [60, 47] ++ n.data.toList ++ [62]
 | .beg n al => 60 :: (n.data.toList ++ (al.flatMap attrL ++ [62]))
 | .emp n al => 60 :: (n.data.toList ++ (al.flatMap attrL ++ [47, 62]))
def Tk.isTxt : Tk → Bool
 | .txt _ => true
 | _ => false
def moreB (x : Nd) (l : List Nd) : Bool := match l.head? with
 | some y => decide (x.depth < y.depth)
 | none => false
def ndTok (x : Nd) (m : Bool) : Tk := if x.name.size = 0 then .txt x.text else if m then .beg x.name x.attrs else .emp x.name x.attrs
def openB (x : Nd) (m : Bool) : List ByteArray := if x.name.size ≠ 0 ∧ m = true then [x.name] else []
def toks : List ByteArray → List Nd → List Tk
 | st, [] => st.reverse.map .fin
 | st, x :: l => (st.drop x.depth).reverse.map .fin ++ (ndTok x (moreB x l) :: toks (st.take x.depth ++ openB x (moreB x l)) l)
def tkBytes (l : List Tk) : List UInt8 := l.flatMap Tk.bytes
def printL (l : List Nd) : List UInt8 := tkBytes (toks [] l)
structure Ps where
 nodes : List Nd
 opn : List ByteArray
 joined : Bool
def Ps.step (p : Ps) : Tk → Ps
 | .txt s => ⟨p.nodes ++ [⟨ByteArray.empty, s, [], p.opn.length⟩], p.opn, true⟩
 | .fin _ => ⟨p.nodes, p.opn.dropLast, false⟩
 | .beg n al => ⟨p.nodes ++ [⟨n, ByteArray.empty, al, p.opn.length⟩], p.opn ++ [n], false⟩
 | .emp n al => ⟨p.nodes ++ [⟨n, ByteArray.empty, al, p.opn.length⟩], p.opn, false⟩
structure ElOk (n : ByteArray) (al : List (ByteArray × ByteArray)) : Prop where
 nm : xnm n = true
 few : al.length ≤ 16
 each : ∀ a ∈ al, xnm a.1 = true ∧ vld a.2 = true
 dist : (al.map (·.1)).Nodup
structure RoomOk (p : Ps) (text : Bool) : Prop where
 top : p.opn = [] → text = false ∧ p.nodes = []
 deep : p.opn.length ≤ 15
 few : p.nodes.length < 8192
def TkOk (p : Ps) : Tk → Prop
 | .txt s => RoomOk p true ∧ p.joined = false ∧ vld s = true ∧ s.size ≠ 0
 | .fin n => p.opn.getLast? = some n ∧ xnm n = true
 | .beg n al => RoomOk p false ∧ ElOk n al
 | .emp n al => RoomOk p false ∧ ElOk n al
inductive Runs : Ps → List Tk → Ps → Prop
 | nil (p : Ps) : Runs p [] p
 | cons {p q : Ps} {t : Tk} {l : List Tk} : TkOk p t → Runs (p.step t) l q → Runs p (t :: l) q
theorem Runs.append {p q r : Ps} {a b : List Tk} (h : Runs p a q) (k : Runs q b r) : Runs p (a ++ b) r := by
 induction h with
 | nil p => exact k
 | cons h1 _ ih => exact .cons h1 (ih k)
structure NdOk (x : Nd) : Prop where
 deep : x.depth ≤ 15
 el : x.name.size ≠ 0 → ElOk x.name x.attrs ∧ x.text = ByteArray.empty
 tx : x.name.size = 0 → x.attrs = [] ∧ x.text.size ≠ 0 ∧ vld x.text = true ∧ x.name = ByteArray.empty
structure Behind (p x : Nd) : Prop where
 low : 1 ≤ x.depth
 high : x.depth ≤ if p.name.size ≠ 0 then p.depth + 1 else p.depth
 apart : x.name.size = 0 → ¬ (p.name.size = 0 ∧ p.depth = x.depth)
def GoodFrom : Option Nd → List Nd → Prop
 | _, [] => True
 | none, x :: l => (x.depth = 0 ∧ x.name.size ≠ 0) ∧ NdOk x ∧ GoodFrom (some x) l
 | some p, x :: l => Behind p x ∧ NdOk x ∧ GoodFrom (some x) l
structure GoodL (l : List Nd) : Prop where
 ne : l ≠ []
 few : l.length ≤ 8192
 from' : GoodFrom none l
theorem GoodFrom.ok {l : List Nd} : ∀ {p : Option Nd}, GoodFrom p l → ∀ x ∈ l, NdOk x := by
 induction l with
 | nil => intro p h x hx; simp at hx
 | cons y l ih =>
  intro p h x hx
  have h2 : NdOk y ∧ GoodFrom (some y) l := by cases p <;> exact h.2
  rcases List.mem_cons.1 hx with rfl | hx
  · exact h2.1
  · exact ih h2.2 x hx
theorem GoodFrom.at_ {l : List Nd} : ∀ {p : Option Nd}, GoodFrom p l → ∀ i x y, l[i]? = some x → l[i + 1]? = some y → Behind x y := by
 induction l with
 | nil => intro p h i x y hx; simp at hx
 | cons z l ih =>
  intro p h i x y hx hy
  have h2 : GoodFrom (some z) l := by cases p <;> exact h.2.2
  cases i with
  | succ i => exact ih h2 i x y (by simpa using hx) (by simpa using hy)
  | zero =>
   cases l with
   | nil => simp at hy
   | cons u l =>
    simp only [List.getElem?_cons_zero, Option.some.injEq, List.getElem?_cons_succ, Nat.zero_add] at hx hy
    subst hx
    subst hy
    exact h2.1
theorem GoodFrom.append {a b : List Nd} : ∀ {p : Option Nd}, GoodFrom p a → GoodFrom (a.getLast?.or p) b → GoodFrom p (a ++ b) := by
 induction a with
 | nil => intro p _ h; simpa using h
 | cons x a ih =>
  intro p h k
  have h2 : GoodFrom (some x) a := by cases p <;> exact h.2.2
  have k2 : GoodFrom (some x) (a ++ b) := ih h2 (by
   cases a with
   | nil => simpa using k
   | cons y a =>
    rw [List.getLast?_cons_cons] at k
    cases hl : (y :: a).getLast? with
    | none => simp at hl
    | some z => rw [hl] at k; simpa using k)
  cases p with
  | none => exact ⟨h.1, h.2.1, k2⟩
  | some q => exact ⟨h.1, h.2.1, k2⟩
def lvl (p : Option Nd) (l : List Nd) : Nat := match p with
 | none => 0
 | some q => if q.name.size ≠ 0 ∧ moreB q l = true then q.depth + 1 else q.depth
theorem fins_run (pre : List Nd) : ∀ (st : List ByteArray) (k : Nat) (j : Bool), (∀ n ∈ st, xnm n = true) → ∃ j', Runs ⟨pre, st, j⟩ ((st.drop k).reverse.map .fin) ⟨pre, st.take k, j'⟩ ∧ (st.length ≤ k → j' = j) ∧ (k < st.length → j' = false) := by
 intro st k j hn
 obtain ⟨m, hm⟩ : ∃ m, st.length - k = m := ⟨_, rfl⟩
 induction m generalizing st j with
 | zero =>
  rw [List.drop_eq_nil_of_le (by omega), List.take_of_length_le (by omega)]
  exact ⟨j, .nil _, fun _ => rfl, fun h => by omega⟩
 | succ m ih =>
  obtain ⟨n, s, rfl⟩ : ∃ n s, st = s ++ [n] := by
   rcases List.eq_nil_or_concat st with h | ⟨s, n, h⟩
   · subst h; simp at hm
   · exact ⟨n, s, by simpa using h⟩
  simp only [List.length_append, List.length_cons, List.length_nil] at hm ⊢
  have hk : k ≤ s.length := by omega
  rw [List.drop_append_of_le_length hk, List.take_append_of_le_length hk, List.reverse_append]
  obtain ⟨j', h1, h2, h3⟩ := ih s false (fun n hn' => hn n (by simp [hn'])) (by omega)
  refine ⟨j', ?_, fun h => by omega, fun _ => ?_⟩
  · refine .cons ⟨by simp, hn n (by simp)⟩ ?_
    show Runs (Ps.step ⟨pre, s ++ [n], j⟩ (.fin n)) _ _
    simp only [Ps.step, List.dropLast_concat]
    exact h1
  · by_cases hs : k < s.length
    · exact h3 hs
    · exact h2 (by omega)
theorem toks_run {l : List Nd} : ∀ {p : Option Nd} {st : List ByteArray} {pre : List Nd} {j : Bool}, GoodFrom p l → (∀ n ∈ st, xnm n = true) → st.length = lvl p l → pre.length + l.length ≤ 8192 → (p = none → pre = []) →
 (∀ q, p = some q → q.name.size ≠ 0 → j = false) → ∃ j', Runs ⟨pre, st, j⟩ (toks st l) ⟨pre ++ l, [], j'⟩ := by
 induction l with
 | nil =>
  intro p st pre j _ hn _ _ _ _
  obtain ⟨j', h, -, -⟩ := fins_run pre st 0 j hn
  refine ⟨j', ?_⟩
  simpa [toks] using h
 | cons x l ih =>
  intro p st pre j hg hn hl hf hp hj
  have hok : NdOk x ∧ GoodFrom (some x) l := by cases p <;> exact hg.2
  have hd : x.depth ≤ st.length := by
   rw [hl]
   cases p with
   | none => have := hg.1.1; omega
   | some q =>
    have := hg.1.high
    unfold lvl
    simp only [moreB, List.head?_cons, decide_eq_true_eq]
    split at this <;> split <;> omega
  obtain ⟨j', h1, h2, h3⟩ := fins_run pre st x.depth j hn
  have hlt : (st.take x.depth).length = x.depth := by rw [List.length_take]; omega
  have hnt : ∀ n ∈ st.take x.depth, xnm n = true := fun n h => hn n (List.mem_of_mem_take h)
  simp only [List.length_cons] at hf
  have hroom : ∀ b, (x.depth = 0 → b = false) → RoomOk ⟨pre, st.take x.depth, j'⟩ b := fun b hb =>
   ⟨fun he => by
    have h0 : x.depth = 0 := by rw [← hlt]; simp [show st.take x.depth = [] from he]
    refine ⟨hb h0, ?_⟩
    cases p with
    | none => exact hp rfl
    | some q => exact absurd hg.1.low (by omega), by show (st.take x.depth).length ≤ 15; rw [hlt]; exact hok.1.deep, by show pre.length < 8192; omega⟩
  have hlen : (pre ++ [x]).length + l.length ≤ 8192 := by simp; omega
  unfold toks
  by_cases hx : x.name.size = 0
  · -- a text
    obtain ⟨ha, ht, hv, he⟩ := hok.1.tx hx
    have hx0 : x.depth ≠ 0 := by
     cases p with
     | none => exact absurd hx hg.1.2
     | some q => have := hg.1.low; omega
    have hj' : j' = false := by
     cases p with
     | none => exact absurd hx hg.1.2
     | some q =>
      by_cases hs : x.depth < st.length
      · exact h3 hs
      · rw [h2 (by omega)]
        by_cases hq : q.name.size = 0
        · exfalso
          have := hg.1.apart hx
          rw [show lvl (some q) (x :: l) = q.depth from if_neg (fun h => h.1 hq)] at hl
          exact this ⟨hq, by omega⟩
        · exact hj q rfl hq
    obtain ⟨j2, h4⟩ := ih (p := some x) (st := st.take x.depth ++ openB x (moreB x l)) (pre := pre ++ [x]) (j := true) hok.2
     (by rw [openB, if_neg (fun h => h.1 hx), List.append_nil]; exact hnt)
     (by rw [openB, if_neg (fun h => h.1 hx), List.append_nil, hlt]; exact (if_neg (fun h => h.1 hx)).symm) hlen (fun h => by simp at h) (fun q hq hne => by simp only [Option.some.injEq] at hq; subst hq; exact absurd hx hne)
    refine ⟨j2, h1.append (.cons ?_ ?_)⟩
    · rw [ndTok, if_pos hx]
      exact ⟨hroom true (fun h => absurd h hx0), hj', hv, ht⟩
    · rw [ndTok, if_pos hx]
      have e : Ps.step ⟨pre, st.take x.depth, j'⟩ (.txt x.text) = ⟨pre ++ [x], st.take x.depth ++ openB x (moreB x l), true⟩ := by
       simp only [Ps.step, hlt]
       rw [openB, if_neg (fun h => h.1 hx), List.append_nil, ← he, ← ha]
      rw [e]
      simpa using h4
  · obtain ⟨hel, htx⟩ := hok.1.el hx
    obtain ⟨j2, h4⟩ := ih (p := some x) (st := st.take x.depth ++ openB x (moreB x l)) (pre := pre ++ [x]) (j := false) hok.2
     (by
      intro n hn'
      rcases List.mem_append.1 hn' with h | h
      · exact hnt n h
      · unfold openB at h
        split at h
        · rw [List.mem_singleton.1 h]; exact hel.nm
        · simp at h)
     (by
      rw [List.length_append, hlt]
      unfold lvl openB
      dsimp only
      split <;> rfl) hlen (fun h => by simp at h) (fun _ _ _ => rfl)
    refine ⟨j2, h1.append (.cons ?_ ?_)⟩
    · rw [ndTok, if_neg hx]
      split
      · exact ⟨hroom false (fun _ => rfl), hel⟩
      · exact ⟨hroom false (fun _ => rfl), hel⟩
    · have e : Ps.step ⟨pre, st.take x.depth, j'⟩ (ndTok x (moreB x l)) = ⟨pre ++ [x], st.take x.depth ++ openB x (moreB x l), false⟩ := by
       rw [ndTok, if_neg hx]
       cases hm : moreB x l
       · rw [if_neg (by simp)]
         simp only [Ps.step, hlt]
         rw [openB, if_neg (by simp), List.append_nil, ← htx]
       · rw [if_pos rfl]
         simp only [Ps.step, hlt]
         rw [openB, if_pos ⟨hx, rfl⟩, ← htx]
      rw [e]
      simpa using h4
theorem print_runs {l : List Nd} (h : GoodL l) : ∃ j, Runs ⟨[], [], false⟩ (toks [] l) ⟨l, [], j⟩ := by
 have := toks_run (p := none) (st := []) (pre := []) (j := false) h.from' (by simp) rfl (by simpa using h.few) (fun _ => rfl) (fun _ h => by simp at h)
 simpa using this
theorem Tk.head {p : Ps} {t : Tk} (h : TkOk p t) (ht : t.isTxt = false) : ∃ l, t.bytes = 60 :: l := by
 cases t with
 | txt s => simp [Tk.isTxt] at ht
 | fin n => exact ⟨_, rfl⟩
 | beg n al => exact ⟨_, rfl⟩
 | emp n al => exact ⟨_, rfl⟩
theorem Runs.tag {p q : Ps} {s : ByteArray} {l : List Tk} (h : Runs p (.txt s :: l) q) : tkBytes l = [] ∨ ∃ r, tkBytes l = 60 :: r := by
 cases h with
 | cons h1 h2 =>
  cases h2 with
  | nil => exact .inl rfl
  | @cons _ _ t l h3 h4 =>
   refine .inr ?_
   have ht : t.isTxt = false := by
    cases t with
    | txt u => exact absurd h3.2.1 (by simp [Ps.step])
    | _ => rfl
   obtain ⟨r, hr⟩ := Tk.head h3 ht
   exact ⟨r ++ tkBytes l, by rw [tkBytes, List.flatMap_cons, hr]; rfl⟩
end
end Go.Proofs.YtbmblnhfmpolbaaGreatDoor