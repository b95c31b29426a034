/- Texts laid together. -/
import Derived.Test.YtablhmobekmflaaGreatDoorCt02
import Derived.Test.YtablhmobekmflaaGreatDoorCt01
import Derived.Lib.SliceRun
import Derived.Test.YtablhmobekmflaaGreatDoorShelf
import Derived.Lib.LaidU8T
import Derived.Deep.DeepHandedRow
import Derived.Lib.LaidTab
import Derived.Lib.Join
set_option linter.unusedVariables false
set_option linter.unusedSimpArgs false
namespace Go.Proofs.YtablhmobekmflaaGreatDoor
section
open Go.RowKit
def IntsAt (w : World) (A : Option Addr) (n : Nat) (l : List Int) : Prop := Sl w 1 (Cells fun x => [.int .i64 x]) A n l
theorem IntsAt.ext {w w1 : World} {A : Option Addr} {n : Nat} {l : List Int} (h : IntsAt w A n l) (k : Ext w w1) : IntsAt w1 A n l := Sl.ext (Cells.stays _) h k
theorem IntsAt.cell {w : World} {A : Option Addr} {n : Nat} {l : List Int} (h : IntsAt w A n l) {i : Nat} (hi : i < n) : ∃ b off x, A = some ⟨b, off, none⟩ ∧ l[i]? = some x ∧ w.cell? ⟨b, off + i, none⟩ = some (.int .i64 x) := by
 obtain ⟨b, off, x, hA, hx, hc⟩ := h.at_ hi
 exact ⟨b, off, x, hA, hx, by simpa using hc 0 (.int .i64 x) rfl⟩
structure Spot where
 row : Int
 col : Int
 len : Int
 deriving DecidableEq
def Spot.cells (s : Spot) : List Value := [.int .i64 s.row, .int .i64 s.col, .int .i64 s.len]
def Spot.val (s : Spot) : Value := .agg s.cells.toArray
def SpotsAt (w : World) (A : Option Addr) (n : Nat) (l : List Spot) : Prop := Sl w 3 (Cells Spot.cells) A n l
def Reg.spot (r : Reg) (top : Int) (i : Nat) (n : Int) : Spot := ⟨top + i, if r.align = 3 then r.left + (r.width - n) else if r.align = 2 then r.left + (r.width - n) / 2 else r.left, n⟩
def Reg.spots (r : Reg) (top : Int) : Nat → List Int → List Spot
 | _, [] => []
 | i, n :: l => r.spot top i n :: r.spots top (i + 1) l
def Reg.lensErr (r : Reg) : List Int → Int
 | [] => 0
 | n :: l => if n < 0 then 2 else if r.width < n then 11 else r.lensErr l
def Reg.top' (r : Reg) (n : Nat) : Int := if r.bottom then r.top + (r.height - n) else r.top
def Reg.place (r : Reg) (lens : List Int) : Int := if r.usable = false then 1 else if r.height < lens.length then 9 else r.lensErr lens
theorem spots_snoc (r : Reg) (top : Int) : ∀ (l : List Int) (i : Nat) (n : Int), r.spots top i (l ++ [n]) = r.spots top i l ++ [r.spot top (i + l.length) n]
 | [], i, n => by simp [Reg.spots]
 | a :: l, i, n => by
  simp only [List.cons_append, Reg.spots, spots_snoc r top l (i + 1) n, List.length_cons]
  rw [show i + 1 + l.length = i + (l.length + 1) by omega]
theorem spots_len (r : Reg) (top : Int) : ∀ (l : List Int) (i : Nat), (r.spots top i l).length = l.length
 | [], i => rfl
 | a :: l, i => by simp [Reg.spots, spots_len r top l (i + 1)]
theorem lensErr_drop (r : Reg) (l : List Int) (k : Nat) (x : Int) (hx : l[k]? = some x) : r.lensErr (l.drop k) = if x < 0 then 2 else if r.width < x then 11 else r.lensErr (l.drop (k + 1)) := by
 have hkl := (List.getElem?_eq_some_iff.1 hx).1
 rw [List.drop_eq_getElem_cons hkl, (List.getElem?_eq_some_iff.1 hx).2]
 rfl
theorem usable_bounds {r : Reg} (h : r.usable = true) : (0 ≤ r.top ∧ r.top ≤ 14) ∧ (1 ≤ r.height ∧ r.height ≤ 15) ∧ (0 ≤ r.left ∧ r.left ≤ 31) ∧ (1 ≤ r.width ∧ r.width ≤ 32) := by
 unfold Reg.usable at h
 rcases of_decide_eq_true h with h | h
 · subst h; decide
 · unfold Reg.check at h
   split at h
   · omega
   · split at h
     · omega
     · rename_i h1 h2
       have h2' : r.inGrid := by simpa using h2
       unfold Reg.inGrid at h2'
       omega
def PlaceRelI (w : World) (bx : Array Value) (r : Reg) (top : Int) (n : Nat) (lens : List Int) (v i : Value) (wr : World) : Prop :=
 ∃ k : Nat, k ≤ n ∧ i = .int .i64 k ∧ Ext (w.alloc (.cells bx 105)) wr ∧ r.lensErr lens = r.lensErr (lens.drop k) ∧
  wr.ownsRow (w.heap.size + 1) 248 3 v k ((r.spots top 0 (lens.take k)).flatMap Spot.cells)
theorem info_spot : (Tryz.prog.info? 248).map (fun i => (i.zero, i.size, i.bytes)) = some (some (.agg #[.int .i64 0, .int .i64 0, .int .i64 0]), 3, 24) := by kernel_rfl
def PlacePost (r : Reg) (lens : List Int) (w : World) (e : Ending) (w' : World) : Prop :=
 ∃ A n c, e = .returned (.tuple #[.slice A n c, .int .i64 (r.place lens)]) ∧ SpotsAt w' A n (if r.place lens = 0 then r.spots (r.top' lens.length) 0 lens else []) ∧ n ≤ c ∧ Ext w w'
theorem placePost_err {r : Reg} {lens : List Int} {w w' : World} {e : Ending} {k : Int} (hk : r.place lens = k) (h0 : k ≠ 0) (he : e = .returned (.tuple #[.slice none 0 0, .int .i64 k])) (hx : Ext w w') : PlacePost r lens w e w' :=
 ⟨none, 0, 0, by rw [hk]; exact he, by rw [if_neg (by rw [hk]; exact h0)]; exact Sl.nil, Nat.le_refl _, hx⟩
theorem placePost_ok {r : Reg} {lens : List Int} {w w' : World} {v : Value} {n base : Nat} {top : Int} (h0 : r.place lens = 0) (ht : r.top' lens.length = top)
 (hown : w'.ownsRow base 248 3 v n ((r.spots top 0 lens).flatMap Spot.cells)) (hn : lens.length = n) (hx : Ext w w') : PlacePost r lens w (.returned (.tuple #[v, .int .i64 0])) w' := by
 have hl : (r.spots top 0 lens).length = n := by rw [spots_len, hn]
 obtain ⟨A, c, rfl, hc, _, hsl, _⟩ := own_sl (f := Spot.cells) (size := 3) (fun _ => rfl) hl hown
 exact ⟨A, n, c, by rw [h0], by rw [if_pos h0, ht]; exact hsl, hc, hx⟩
set_option maxRecDepth 100000 in
set_option maxHeartbeats 4000000 in
theorem Place_any (r : Reg) (A : Option Addr) (n c : Nat) (lens : List Int) (w : World) (hs : r.name.size ≤ 9223372036854775807) (hl : IntsAt w A n lens) (hn : n ≤ 9223372036854775807) :
 Calls Tryz.prog 131 #[r.val, .slice A n c] w (PlacePost r lens w) := by
 have hU := fun w => usable_any r w hs
 have hlen := hl.len
 cases hu : r.usable
 · have HP : Hid (r.place lens = 1) := by show r.place lens = 1; unfold Reg.place; rw [if_pos hu]
   have HU := Lib.hid hU
   have Hu := Lib.hid hu
   clear hU hu hlen hl
   obtain ⟨nm, top, hgt, lft, wid, al, bot⟩ := r
   unfold Reg.val at HU ⊢
   dsimp only at HU ⊢
   go_enter Tryz.func131, Tryz.ntmps131
   go_wp2_with fail
   refine (HU.out _).mono ?_
   rintro e w1 ⟨rfl, hx1⟩
   rw [Hu.out]
   go_wp2_with fail
   go_ret2
   exact placePost_err HP.out (by decide) rfl (((Ext.refl w).alloc _).trans hx1)
 · have hb := usable_bounds hu
   obtain ⟨⟨ht0, ht1⟩, ⟨hh0, hh1⟩, ⟨hl0, hl1⟩, ⟨hw0, hw1⟩⟩ := hb
   by_cases hgt9 : r.height < n
   · have HP : Hid (r.place lens = 9) := by show r.place lens = 9; unfold Reg.place; rw [if_neg (by rw [hu]; simp), if_pos (by rw [hlen]; exact hgt9)]
     have HU := Lib.hid hU
     have Hu := Lib.hid hu
     clear hU hu hlen hl
     obtain ⟨nm, top, hgt, lft, wid, al, bot⟩ := r
     unfold Reg.val at HU ⊢
     dsimp only at *
     go_enter Tryz.func131, Tryz.ntmps131
     go_wp2_with fail
     refine (HU.out _).mono ?_
     rintro e w1 ⟨rfl, hx1⟩
     rw [Hu.out]
     have hc := hx1.bcell.1 w.heap.size
     simp at hc
     go_wp2_with fail
     go_ret2
     exact placePost_err HP.out (by decide) rfl (((Ext.refl w).alloc _).trans hx1)
   · have hnh : (n : Int) ≤ r.height := by omega
     have hn15 : n ≤ 15 := by omega
     have HP : Hid (r.place lens = r.lensErr lens) := by show r.place lens = _; unfold Reg.place; rw [if_neg (by rw [hu]; simp), if_neg (by rw [hlen]; omega)]
     have HLn := Lib.hid hlen
     have HL := Lib.hid hl
     have HU := Lib.hid hU
     have Hu := Lib.hid hu
     clear hU hu hlen hl hgt9
     obtain ⟨i0, hi0, hz0, hz1, hz2⟩ := info_parts info_spot
     obtain ⟨nm, top, hgt, lft, wid, al, bot⟩ := r
     unfold Reg.val at HU ⊢
     dsimp only at *
     cases bot
     · go_enter Tryz.func131, Tryz.ntmps131
       go_wp2_with fail
       refine (HU.out _).mono ?_
       rintro e w1 ⟨rfl, hx1⟩
       rw [Hu.out]
       have hc := hx1.bcell.1 w.heap.size
       simp at hc
       go_wp2_with fail
       clear hc
       go_loopw [7, 34] (fun v i wr => PlaceRelI w #[.string nm, .int .i64 top, .int .i64 hgt, .int .i64 lft, .int .i64 wid, .int .u8 al, .bool false] ⟨nm, top, hgt, lft, wid, al, false⟩ top n lens v i wr) (fun _ i _ => n - (intOf i).toNat)
       case atStart => exact ⟨0, Nat.zero_le _, rfl, hx1, rfl, ⟨by simp [Reg.spots], .inl ⟨rfl, rfl⟩⟩⟩
       case round =>
        obtain ⟨k, hk, rfl, hx, hp, hown⟩ := hrel
        have HPr := Lib.hid hp
        clear hp
        have hB := Lib.hid (Blk.ext (Blk.new w _ _) hx)
        have hxw : Ext w wr := ((Ext.refl w).alloc _).trans hx
        have hc := fun o => hB.out.cell o
        have hsz : w.heap.size < wr.heap.size := hB.out.lt
        have hne : w.heap.size ≠ wr.heap.size := by omega
        by_cases hlt : k < n
        · obtain ⟨b, off, x, rfl, hxx, hcell⟩ := (HL.out.ext hxw).cell hlt
          have HX := Lib.hid hxx
          have HE := Lib.hid (lensErr_drop ⟨nm, top, hgt, lft, wid, al, false⟩ lens k x hxx)
          have HT := Lib.hid (take_snoc' lens k x hxx)
          have hkl : Hid ((lens.take k).length = k) := by show (lens.take k).length = k; rw [List.length_take, HLn.out]; omega
          clear hxx
          by_cases hneg : x < 0
          · go_wp2_with fail
            go_ret2
            exact placePost_err (k := 2) (by rw [HP.out, HPr.out, HE.out, if_pos (by omega)]) (by decide) rfl hxw
          · by_cases hwide : wid < x
            · go_wp2_with fail
              go_ret2
              exact placePost_err (k := 11) (by rw [HP.out, HPr.out, HE.out, if_neg (by omega), if_pos (by omega)]) (by decide) rfl hxw
            · have HS := Lib.hid (spots_snoc ⟨nm, top, hgt, lft, wid, al, false⟩ top (lens.take k) 0 x)
              have hE2 : Hid (Reg.lensErr ⟨nm, top, hgt, lft, wid, al, false⟩ lens = Reg.lensErr ⟨nm, top, hgt, lft, wid, al, false⟩ (lens.drop (k + 1))) := by
               show _ = _
               rw [HPr.out, HE.out, if_neg (by omega), if_neg (by omega)]
              by_cases ha3 : (al == 3) = true
              · have hal : al = 3 := by simpa using ha3
                have HSp : Hid (Reg.spot ⟨nm, top, hgt, lft, wid, al, false⟩ top (0 + (lens.take k).length) x = ⟨top + k, lft + (wid - x), x⟩) := by
                 show _ = _
                 rw [hkl.out]; unfold Reg.spot; simp [hal]
                clear hal
                go_wp2_with (at_builtin; refine wpList_append1 rfl (.tmp 75) (.tmp 77) 200 rfl info_spot Tryz.underlying200 rfl (by decide) ((hown.alloc _).alloc _) (by exact rfl) (wr.heap.size + 1) _ (by exact rfl) (by exact Blk.new' (by simp)) (by exact rfl) (by simp [Value.oneCell']) (by omega) (by simp [maxLen]; omega) (by simp; omega) ?_; intro v' w' hown' hgr)
                refine ⟨⟨k + 1, by omega, by go_num, ((hx.alloc _).alloc _).grown hgr (fun q hq => by have := own_lt hown q hq; simpa using this), hE2.out, ?_⟩, by simp [intOf]; omega⟩
                rw [HT.out, HS.out, List.flatMap_append, HSp.out]
                exact hown'
              · have ha3' : (al == 3) = false := by simpa using ha3
                clear ha3
                have hn3 : ¬ al = 3 := by simpa using ha3'
                by_cases ha2 : (al == 2) = true
                · have hal : al = 2 := by simpa using ha2
                  have HSp : Hid (Reg.spot ⟨nm, top, hgt, lft, wid, al, false⟩ top (0 + (lens.take k).length) x = ⟨top + k, lft + (wid - x) / 2, x⟩) := by
                   show _ = _
                   rw [hkl.out]; unfold Reg.spot; simp [hal]
                  clear hal hn3
                  go_wp2_with (at_builtin; refine wpList_append1 rfl (.tmp 75) (.tmp 77) 200 rfl info_spot Tryz.underlying200 rfl (by decide) ((hown.alloc _).alloc _) (by exact rfl) (wr.heap.size + 1) _ (by exact rfl) (by exact Blk.new' (by simp)) (by exact rfl) (by simp [Value.oneCell']) (by omega) (by simp [maxLen]; omega) (by simp; omega) ?_; intro v' w' hown' hgr)
                  refine ⟨⟨k + 1, by omega, by go_num, ((hx.alloc _).alloc _).grown hgr (fun q hq => by have := own_lt hown q hq; simpa using this), hE2.out, ?_⟩, by simp [intOf]; omega⟩
                  rw [HT.out, HS.out, List.flatMap_append, HSp.out]
                  exact hown'
                · have ha2' : (al == 2) = false := by simpa using ha2
                  clear ha2
                  have hn2 : ¬ al = 2 := by simpa using ha2'
                  have HSp : Hid (Reg.spot ⟨nm, top, hgt, lft, wid, al, false⟩ top (0 + (lens.take k).length) x = ⟨top + k, lft, x⟩) := by
                   show _ = _
                   rw [hkl.out]; unfold Reg.spot; simp [hn3, hn2]
                  clear hn2 hn3
                  go_wp2_with (at_builtin; refine wpList_append1 rfl (.tmp 75) (.tmp 77) 200 rfl info_spot Tryz.underlying200 rfl (by decide) ((hown.alloc _).alloc _) (by exact rfl) (wr.heap.size + 1) _ (by exact rfl) (by exact Blk.new' (by simp)) (by exact rfl) (by simp [Value.oneCell']) (by omega) (by simp [maxLen]; omega) (by simp; omega) ?_; intro v' w' hown' hgr)
                  refine ⟨⟨k + 1, by omega, by go_num, ((hx.alloc _).alloc _).grown hgr (fun q hq => by have := own_lt hown q hq; simpa using this), hE2.out, ?_⟩, by simp [intOf]; omega⟩
                  rw [HT.out, HS.out, List.flatMap_append, HSp.out]
                  exact hown'
        · have hkn : k = n := by omega
          subst hkn
          have HD : Hid (lens.drop k = []) := List.drop_eq_nil_of_le (by rw [HLn.out]; omega)
          have HTk : Hid (lens.take k = lens) := List.take_of_length_le (by rw [HLn.out]; omega)
          have HO := Lib.hid hown
          clear hown
          go_wp2_with fail
          go_ret2
          exact placePost_ok (by rw [HP.out, HPr.out, HD.out]; rfl) (by rw [HLn.out]; rfl) (HTk.out ▸ HO.out) (by rw [HLn.out]) hxw
     · go_enter Tryz.func131, Tryz.ntmps131
       go_wp2_with fail
       refine (HU.out _).mono ?_
       rintro e w1 ⟨rfl, hx1⟩
       rw [Hu.out]
       have hc := hx1.bcell.1 w.heap.size
       simp at hc
       go_wp2_with fail
       clear hc
       go_loopw [7, 34] (fun v i wr => PlaceRelI w #[.string nm, .int .i64 top, .int .i64 hgt, .int .i64 lft, .int .i64 wid, .int .u8 al, .bool true] ⟨nm, top, hgt, lft, wid, al, true⟩ (top + (hgt - n)) n lens v i wr) (fun _ i _ => n - (intOf i).toNat)
       case atStart => exact ⟨0, Nat.zero_le _, rfl, hx1, rfl, ⟨by simp [Reg.spots], .inl ⟨rfl, rfl⟩⟩⟩
       case round =>
        obtain ⟨k, hk, rfl, hx, hp, hown⟩ := hrel
        have HPr := Lib.hid hp
        clear hp
        have hB := Lib.hid (Blk.ext (Blk.new w _ _) hx)
        have hxw : Ext w wr := ((Ext.refl w).alloc _).trans hx
        have hc := fun o => hB.out.cell o
        have hsz : w.heap.size < wr.heap.size := hB.out.lt
        have hne : w.heap.size ≠ wr.heap.size := by omega
        by_cases hlt : k < n
        · obtain ⟨b, off, x, rfl, hxx, hcell⟩ := (HL.out.ext hxw).cell hlt
          have HX := Lib.hid hxx
          have HE := Lib.hid (lensErr_drop ⟨nm, top, hgt, lft, wid, al, true⟩ lens k x hxx)
          have HT := Lib.hid (take_snoc' lens k x hxx)
          have hkl : Hid ((lens.take k).length = k) := by show (lens.take k).length = k; rw [List.length_take, HLn.out]; omega
          clear hxx
          by_cases hneg : x < 0
          · go_wp2_with fail
            go_ret2
            exact placePost_err (k := 2) (by rw [HP.out, HPr.out, HE.out, if_pos (by omega)]) (by decide) rfl hxw
          · by_cases hwide : wid < x
            · go_wp2_with fail
              go_ret2
              exact placePost_err (k := 11) (by rw [HP.out, HPr.out, HE.out, if_neg (by omega), if_pos (by omega)]) (by decide) rfl hxw
            · have HS := Lib.hid (spots_snoc ⟨nm, top, hgt, lft, wid, al, true⟩ (top + (hgt - n)) (lens.take k) 0 x)
              have hE2 : Hid (Reg.lensErr ⟨nm, top, hgt, lft, wid, al, true⟩ lens = Reg.lensErr ⟨nm, top, hgt, lft, wid, al, true⟩ (lens.drop (k + 1))) := by
               show _ = _
               rw [HPr.out, HE.out, if_neg (by omega), if_neg (by omega)]
              by_cases ha3 : (al == 3) = true
              · have hal : al = 3 := by simpa using ha3
                have HSp : Hid (Reg.spot ⟨nm, top, hgt, lft, wid, al, true⟩ (top + (hgt - n)) (0 + (lens.take k).length) x = ⟨top + (hgt - n) + k, lft + (wid - x), x⟩) := by
                 show _ = _
                 rw [hkl.out]; unfold Reg.spot; simp [hal]
                clear hal
                go_wp2_with (at_builtin; refine wpList_append1 rfl (.tmp 75) (.tmp 77) 200 rfl info_spot Tryz.underlying200 rfl (by decide) ((hown.alloc _).alloc _) (by exact rfl) (wr.heap.size + 1) _ (by exact rfl) (by exact Blk.new' (by simp)) (by exact rfl) (by simp [Value.oneCell']) (by omega) (by simp [maxLen]; omega) (by simp; omega) ?_; intro v' w' hown' hgr)
                refine ⟨⟨k + 1, by omega, by go_num, ((hx.alloc _).alloc _).grown hgr (fun q hq => by have := own_lt hown q hq; simpa using this), hE2.out, ?_⟩, by simp [intOf]; omega⟩
                rw [HT.out, HS.out, List.flatMap_append, HSp.out]
                exact hown'
              · have ha3' : (al == 3) = false := by simpa using ha3
                clear ha3
                have hn3 : ¬ al = 3 := by simpa using ha3'
                by_cases ha2 : (al == 2) = true
                · have hal : al = 2 := by simpa using ha2
                  have HSp : Hid (Reg.spot ⟨nm, top, hgt, lft, wid, al, true⟩ (top + (hgt - n)) (0 + (lens.take k).length) x = ⟨top + (hgt - n) + k, lft + (wid - x) / 2, x⟩) := by
                   show _ = _
                   rw [hkl.out]; unfold Reg.spot; simp [hal]
                  clear hal hn3
                  go_wp2_with (at_builtin; refine wpList_append1 rfl (.tmp 75) (.tmp 77) 200 rfl info_spot Tryz.underlying200 rfl (by decide) ((hown.alloc _).alloc _) (by exact rfl) (wr.heap.size + 1) _ (by exact rfl) (by exact Blk.new' (by simp)) (by exact rfl) (by simp [Value.oneCell']) (by omega) (by simp [maxLen]; omega) (by simp; omega) ?_; intro v' w' hown' hgr)
                  refine ⟨⟨k + 1, by omega, by go_num, ((hx.alloc _).alloc _).grown hgr (fun q hq => by have := own_lt hown q hq; simpa using this), hE2.out, ?_⟩, by simp [intOf]; omega⟩
                  rw [HT.out, HS.out, List.flatMap_append, HSp.out]
                  exact hown'
                · have ha2' : (al == 2) = false := by simpa using ha2
                  clear ha2
                  have hn2 : ¬ al = 2 := by simpa using ha2'
                  have HSp : Hid (Reg.spot ⟨nm, top, hgt, lft, wid, al, true⟩ (top + (hgt - n)) (0 + (lens.take k).length) x = ⟨top + (hgt - n) + k, lft, x⟩) := by
                   show _ = _
                   rw [hkl.out]; unfold Reg.spot; simp [hn3, hn2]
                  clear hn2 hn3
                  go_wp2_with (at_builtin; refine wpList_append1 rfl (.tmp 75) (.tmp 77) 200 rfl info_spot Tryz.underlying200 rfl (by decide) ((hown.alloc _).alloc _) (by exact rfl) (wr.heap.size + 1) _ (by exact rfl) (by exact Blk.new' (by simp)) (by exact rfl) (by simp [Value.oneCell']) (by omega) (by simp [maxLen]; omega) (by simp; omega) ?_; intro v' w' hown' hgr)
                  refine ⟨⟨k + 1, by omega, by go_num, ((hx.alloc _).alloc _).grown hgr (fun q hq => by have := own_lt hown q hq; simpa using this), hE2.out, ?_⟩, by simp [intOf]; omega⟩
                  rw [HT.out, HS.out, List.flatMap_append, HSp.out]
                  exact hown'
        · have hkn : k = n := by omega
          subst hkn
          have HD : Hid (lens.drop k = []) := List.drop_eq_nil_of_le (by rw [HLn.out]; omega)
          have HTk : Hid (lens.take k = lens) := List.take_of_length_le (by rw [HLn.out]; omega)
          have HO := Lib.hid hown
          clear hown
          go_wp2_with fail
          go_ret2
          exact placePost_ok (by rw [HP.out, HPr.out, HD.out]; rfl) (by rw [HLn.out]; rfl) (HTk.out ▸ HO.out) (by rw [HLn.out]) hxw
end
section
open Go.RowKit
def RegsAt (w : World) (A : Option Addr) (n : Nat) (l : List Reg) : Prop := Sl w 7 RegC A n l
theorem RegsAt.ext {w w1 : World} {A : Option Addr} {n : Nat} {l : List Reg} (h : RegsAt w A n l) (k : Ext w w1) : RegsAt w1 A n l := Sl.ext RegC.stays h k
def findR (l : List Reg) (nm : ByteArray) : Option Reg := if nm.toList = [] then some Reg.default else l.find? (fun r => r.name.toList == nm.toList)
def regZero : Array Value := #[.string ⟨#[]⟩, .int .i64 0, .int .i64 0, .int .i64 0, .int .i64 0, .int .u8 0, .bool false]
def FindRel (w : World) (A : Option Addr) (n : Nat) (l : List Reg) (nm : ByteArray) (i : Value) (wr : World) : Prop :=
 ∃ k : Nat, k ≤ n ∧ i = .int .i64 k ∧ Ext (w.alloc (.cells regZero 105)) wr ∧ l.find? (fun r => r.name.toList == nm.toList) = (l.drop k).find? (fun r => r.name.toList == nm.toList)
theorem info_reg : (Tryz.prog.info? 105).map (·.size) = some 7 := by kernel_rfl
theorem find_ret {w' : World} {g : Nat} {r : Reg} {b : Bool} {tmps : Array Value} (hB : Blk w' g 105 #[.string r.name, .int .i64 r.top, .int .i64 r.height, .int .i64 r.left, .int .i64 r.width, .int .u8 r.align, .bool r.bottom])
 (h4 : tmps.getD 4 undef = .pointer (some ⟨g, 0, none⟩)) (h5 : tmps.getD 5 undef = .bool b) : (results Tryz.f127 tmps).run Tryz.prog w' = .ok (.tuple #[r.val, .bool b]) w' := by
 rw [results_B_tmp (P := Tryz.prog) Tryz.results127 h4 hB Tryz.underlying105 rfl info_reg, h5]
 rfl
set_option maxHeartbeats 1000000 in
theorem Find_any (A : Option Addr) (n c : Nat) (l : List Reg) (nm : ByteArray) (w : World) (hl : RegsAt w A n l) (hn : n ≤ 9223372036854775807) :
 Calls Tryz.prog 127 #[.slice A n c, .string nm] w fun e w' => e = .returned (.tuple #[((findR l nm).getD Reg.zero).val, .bool (findR l nm).isSome]) ∧ Ext w w' := by
 by_cases h0 : nm.toList = []
 · have HF : Hid (findR l nm = some Reg.default) := by show findR l nm = _; unfold findR; rw [if_pos h0]
   have h0' : nm.toList.isEmpty = true := by rw [h0]; rfl
   clear h0
   go_enter Tryz.func127, Tryz.ntmps127
   go_wp2_with fail
   refine (Default_any _).mono ?_
   rintro e w1 ⟨rfl, hx1⟩
   unfold Reg.val Reg.default
   dsimp only
   have hB := Lib.hid (Blk.ext (Blk.new w _ _) hx1)
   go_wp2_with (refine wpList_storeB rfl 105 (.tmp 4) (.tmp 10) rfl w.heap.size 105 _ _ (by exact rfl) (by exact rfl) hB.out (by exact rfl) (by exact info_reg) (by simp [Value.oneCell']) ?_)
   refine bodyPost_ret (v := .tuple #[Reg.default.val, .bool true]) ?_ rfl ⟨?_, ?_⟩
   · exact find_ret (r := Reg.default) (hB.out.put _) rfl rfl
   · rw [HF.out]; rfl
   · exact (((Ext.refl w).alloc _).trans hx1).put (Nat.le_refl _) _ _
 · have HF : Hid (findR l nm = l.find? (fun r => r.name.toList == nm.toList)) := by show findR l nm = _; unfold findR; rw [if_neg h0]
   have h0' : nm.toList.isEmpty = false := by cases h : nm.toList with
    | nil => exact absurd h h0
    | cons a b => rfl
   clear h0
   have HL := Lib.hid hl
   clear hl
   go_enter Tryz.func127, Tryz.ntmps127
   go_wp2_with fail
   go_loopw [13] (fun i wr => FindRel w A n l nm i wr) (fun i _ => n - (intOf i).toNat)
   case atStart => exact ⟨0, Nat.zero_le _, rfl, Ext.refl _, rfl⟩
   case round =>
    obtain ⟨k, hk, rfl, hx, hp⟩ := hrel
    have HP := Lib.hid hp
    clear hp
    have hB := Lib.hid (Blk.ext (Blk.new w _ _) hx)
    have hxw : Ext w wr := ((Ext.refl w).alloc _).trans hx
    by_cases hlt : k < n
    · obtain ⟨b, off, r, rfl, hr, hC⟩ := (HL.out.ext hxw).at_ hlt
      have HR := Lib.hid hr
      clear hr
      obtain ⟨c0, c1, c2, c3, c4, c5, c6⟩ := hC
      have hdrop : Hid (l.drop k = r :: l.drop (k + 1)) := by
       show l.drop k = _
       have hkl := (List.getElem?_eq_some_iff.1 HR.out).1
       rw [List.drop_eq_getElem_cons hkl]
       congr 1
       exact (List.getElem?_eq_some_iff.1 HR.out).2
      by_cases hq : (r.name.toList == nm.toList) = true
      · go_wp2_with (refine wpList_storeB rfl 105 (.tmp 4) (.tmp 21) rfl w.heap.size 105 _ _ (by exact rfl) (by exact rfl) (hB.out.alloc _) (by exact rfl) (by exact info_reg) (by simp [Value.oneCell']) ?_)
        refine bodyPost_ret (v := .tuple #[r.val, .bool true]) ?_ rfl ⟨?_, ?_⟩
        · exact find_ret (r := r) ((hB.out.alloc _).put _) rfl rfl
        · rw [HF.out, HP.out, hdrop.out, List.find?_cons, hq]; rfl
        · exact (hxw.alloc _).put (Nat.le_refl _) _ _
      · have hq' : (r.name.toList == nm.toList) = false := by simpa using hq
        clear hq
        go_wp2_with fail
        refine ⟨⟨k + 1, by omega, by go_num, hx.alloc _, ?_⟩, by simp [intOf]; omega⟩
        rw [HP.out, hdrop.out, List.find?_cons, hq']
    · have hend : Hid (l.drop k = []) := List.drop_eq_nil_of_le (by rw [HL.out.len]; omega)
      go_wp2_with (refine wpList_storeB rfl 105 (.tmp 4) (.tmp 23) rfl w.heap.size 105 _ _ (by exact rfl) (by exact rfl) hB.out (by exact rfl) (by exact info_reg) (by simp [Value.oneCell']) ?_)
      refine bodyPost_ret (v := .tuple #[Reg.zero.val, .bool false]) ?_ rfl ⟨?_, ?_⟩
      · exact find_ret (r := Reg.zero) (hB.out.put _) rfl rfl
      · rw [HF.out, HP.out, hend.out]; rfl
      · exact hxw.put (Nat.le_refl _) _ _
end
section
open Go.RowKit
structure Ev where
 id : Int
 inn : Int
 out : Int
 region : ByteArray
 kind : Int
 speaker : ByteArray
 rows : List Row
 deriving DecidableEq
def Ev.cells (e : Ev) (A : Option Addr) (n c : Nat) : Array Value := #[.int .i64 e.id, .int .i64 e.inn, .int .i64 e.out, .string e.region, .int .u8 e.kind, .string e.speaker, .slice A n c]
def EvAt (w : World) (e : Ev) (A : Option Addr) (n c : Nat) : Prop := RowsAt w A n e.rows ∧ n ≤ c ∧ n * 24 ≤ 140737488355328
theorem EvAt.ext {w w1 : World} {e : Ev} {A : Option Addr} {n c : Nat} (h : EvAt w e A n c) (k : Ext w w1) : EvAt w1 e A n c := ⟨h.1.ext k, h.2⟩
theorem EvAt.len {w : World} {e : Ev} {A : Option Addr} {n c : Nat} (h : EvAt w e A n c) : e.rows.length = n := h.1.len
def RowSmall (r : Row) : Prop := rowBytes r < 4294967281 ∧ ∀ x ∈ r, x.text.size ≤ 4611686018427387904 ∧ x.ruby.size ≤ 4611686018427387904
def EvSmall (e : Ev) : Prop := e.region.size ≤ 9223372036854775807 ∧ e.speaker.size ≤ 9223372036854775807 ∧ ∀ r ∈ e.rows, RowSmall r
def LensPost (e : Ev) (w : World) (en : Ending) (w' : World) : Prop :=
 ∃ A n c, en = .returned (.slice A n c) ∧ IntsAt w' A n (e.rows.map rowLen) ∧ n ≤ c ∧ Ext w w'
def LensRel (w : World) (bx : Array Value) (n : Nat) (rows : List Row) (v i : Value) (wr : World) : Prop :=
 ∃ k : Nat, k ≤ n ∧ i = .int .i64 k ∧ Ext (w.alloc (.cells bx 64)) wr ∧ wr.ownsRow (w.heap.size + 1) 3 1 v k (((rows.take k).map rowLen).flatMap fun x => [Value.int .i64 x])
theorem info_int : (Tryz.prog.info? 3).map (fun i => (i.zero, i.size, i.bytes)) = some (some (.int .i64 0), 1, 8) := by kernel_rfl
theorem lensPost_ok {e : Ev} {w w' : World} {v : Value} {n base : Nat} (hn : e.rows.length = n) (hown : w'.ownsRow base 3 1 v n ((e.rows.map rowLen).flatMap fun x => [Value.int .i64 x])) (hx : Ext w w') : LensPost e w (.returned v) w' := by
 have hl : (e.rows.map rowLen).length = n := by rw [List.length_map, hn]
 obtain ⟨A, c, rfl, hc, _, hsl, _⟩ := own_sl (f := fun x : Int => [Value.int .i64 x]) (size := 1) (fun _ => rfl) hl hown
 exact ⟨A, n, c, rfl, hsl, hc, hx⟩
set_option maxRecDepth 100000 in
set_option maxHeartbeats 2000000 in
theorem lens_any (e : Ev) (A : Option Addr) (n c : Nat) (w : World) (hE : Env w) (he : EvAt w e A n c) (hb : ∀ r ∈ e.rows, RowSmall r) :
 Calls Tryz.prog 132 #[.agg (e.cells A n c)] w (LensPost e w) := by
 have hn24 : n * 24 ≤ 140737488355328 := by have := he.2; omega
 have HA := Lib.hid he.1
 have HLn := Lib.hid he.len
 have HEn := Lib.hid hE
 have HBd := Lib.hid hb
 clear he hE hb
 unfold Ev.cells
 go_enter Tryz.func132, Tryz.ntmps132
 go_wp2_with fail
 go_loopw [3, 9] (fun v i wr => LensRel w #[.int .i64 e.id, .int .i64 e.inn, .int .i64 e.out, .string e.region, .int .u8 e.kind, .string e.speaker, .slice A n c] n e.rows v i wr) (fun _ i _ => n - (intOf i).toNat)
 case atStart => exact ⟨0, Nat.zero_le _, rfl, Ext.refl _, ⟨rfl, .inl ⟨rfl, rfl⟩⟩⟩
 case round =>
  obtain ⟨k, hk, rfl, hx, hown⟩ := hrel
  have hxw : Ext w wr := ((Ext.refl w).alloc _).trans hx
  by_cases hlt : k < n
  · obtain ⟨b, off, r, rfl, hr, A', n', c', hcell, hnc, hc40, hruns⟩ := (HA.out.ext hxw).at_ hlt
    simp only [Nat.mul_one] at hcell
    have HR := Lib.hid hruns
    have hsm := HBd.out r (List.mem_of_getElem? hr)
    have HT := Lib.hid (take_snoc' e.rows k r hr)
    have hrb : rowBytes r < 4294967281 := hsm.1
    clear hr hruns hsm
    go_wp2_with fail
    refine (SLen_any A' n' c' r _ (HEn.out.ext (hxw.alloc _)) (HR.out.ext ((Ext.refl wr).alloc _)) (by omega) (by omega)).mono ?_
    rintro en w2 ⟨rfl, hx2⟩
    have HO2 := Lib.hid (own_ext (hown.alloc (.cells #[.slice A' n' c'] 174)) hx2)
    have hsz2 := hx.size
    have hsz3 := hx2.size
    simp only [World.size_alloc] at hsz2 hsz3
    go_wp2_with (at_builtin; refine wpList_append1 rfl (.tmp 13) (.tmp 16) 83 rfl info_int Tryz.underlying83 rfl (by decide) (HO2.out.alloc _) (by exact rfl) w2.heap.size _ (by exact rfl) (by exact Blk.new' rfl) (by exact rfl) (by simp [Value.oneCell']) (by omega) (by simp [maxLen]; omega) (by simp; omega) ?_; intro v' w3 hown3 hgr)
    refine ⟨⟨k + 1, by omega, by go_num, ((hx.alloc _).trans (hx2.alloc _)).grown hgr (fun q hq => by have := own_lt hown q hq; simpa using this), ?_⟩, by simp [intOf]; omega⟩
    rw [HT.out, List.map_append, List.flatMap_append]
    exact hown3
  · have hkn : k = n := by omega
    subst hkn
    have HT : Hid (e.rows.take k = e.rows) := List.take_of_length_le (by rw [HLn.out]; omega)
    have HO := Lib.hid hown
    clear hown
    go_wp2_with fail
    go_ret
    exact lensPost_ok HLn.out (by have := HO.out; rw [HT.out] at this; exact this) hxw
end
section
open Go.RowKit
def Fresh (w : World) (T : TypeId) (L : Nat) (A : Option Addr) : Prop := ∀ ad, A = some ad → L ≤ ad.block ∧ Typed w T ad.block
theorem Fresh.le {w : World} {T : TypeId} {L L' : Nat} {A : Option Addr} (h : Fresh w T L A) (hl : L' ≤ L) : Fresh w T L' A := fun ad e => ⟨Nat.le_trans hl (h ad e).1, (h ad e).2⟩
theorem Fresh.ext {w w1 : World} {T : TypeId} {L : Nat} {A : Option Addr} (h : Fresh w T L A) (k : Ext w w1) : Fresh w1 T L A := fun ad e => ⟨(h ad e).1, (h ad e).2.ext k⟩
theorem Fresh.setCell {w : World} {T : TypeId} {L : Nat} {A : Option Addr} (h : Fresh w T L A) (p : Addr) (u : Value) : Fresh (w.setCell p u) T L A := fun ad e => ⟨(h ad e).1, (h ad e).2.setCell p u⟩
theorem Fresh.grown {w w1 : World} {T T' : TypeId} {L : Nat} {A : Option Addr} {row : Option Nat} (h : Fresh w T L A) (hg : w.grownBy w1 row) (hr : ∀ q, row = some q → Typed w T' q) (hne : T ≠ T') : Fresh w1 T L A := fun ad e => ⟨(h ad e).1, (h ad e).2.grown hg hr hne⟩
theorem Fresh.put {w : World} {T t : TypeId} {L g : Nat} {A : Option Addr} {cs : Array Value} (h : Fresh w T L A) (hB : Blk w g t cs) (cs' : Array Value) (hne : T ≠ t) : Fresh (putB w g t cs') T L A := fun ad e => ⟨(h ad e).1, (h ad e).2.put hB cs' hne⟩
theorem Fresh.of_own {w : World} {base : Nat} {e : TypeId} {size n m c : Nat} {A : Option Addr} {xs : List Value} (h : w.ownsRow base e size (.slice A m c) n xs) : Fresh w e base A := fun ad hA => by
 subst hA
 exact ⟨own_lt h _ rfl, own_typed h _ rfl⟩
def Run.cells (r : Run) : List Value := [.string r.text, .int .u8 r.color, .bool r.italic, .bool r.under, .string r.ruby]
theorem runC_cells {w : World} {b o : Nat} {r : Run} (h : RunC w b o r) : Cells Run.cells w b o r := by
 obtain ⟨h0, h1, h2, h3, h4⟩ := h
 intro j u hu
 match j, hu with
 | 0, hu => simp [Run.cells] at hu; subst hu; exact h0
 | 1, hu => simp [Run.cells] at hu; subst hu; exact h1
 | 2, hu => simp [Run.cells] at hu; subst hu; exact h2
 | 3, hu => simp [Run.cells] at hu; subst hu; exact h3
 | 4, hu => simp [Run.cells] at hu; subst hu; exact h4
 | j + 5, hu => simp [Run.cells] at hu
theorem cells_runC {w : World} {b o : Nat} {r : Run} (h : Cells Run.cells w b o r) : RunC w b o r := ⟨h 0 _ rfl, h 1 _ rfl, h 2 _ rfl, h 3 _ rfl, h 4 _ rfl⟩
theorem RunsAt.cells {w : World} {A : Option Addr} {n : Nat} {l : Row} (h : RunsAt w A n l) : Sl w 5 (Cells Run.cells) A n l := Sl.change h fun _ _ _ => runC_cells
theorem RunsAt.of_cells {w : World} {A : Option Addr} {n : Nat} {l : Row} (h : Sl w 5 (Cells Run.cells) A n l) : RunsAt w A n l := Sl.change h fun _ _ _ => cells_runC
theorem info_run : (Tryz.prog.info? 171).map (fun i => (i.zero, i.size, i.bytes)) = some (some (.agg #[.string ⟨#[]⟩, .int .u8 0, .bool false, .bool false, .string ⟨#[]⟩]), 5, 40) := by kernel_rfl
theorem info_row : (Tryz.prog.info? 174).map (fun i => (i.zero, i.size, i.bytes)) = some (some (.agg #[.slice none 0 0]), 1, 24) := by kernel_rfl
def CloneRunsPost (l : Row) (n : Nat) (w : World) (e : Ending) (w' : World) : Prop :=
 ∃ A c, e = .returned (.slice A n c) ∧ n ≤ c ∧ RunsAt w' A n l ∧ Fresh w' 171 w.heap.size A ∧ Ext w w'
set_option maxHeartbeats 1000000 in
theorem CloneRuns_any (A : Option Addr) (n c : Nat) (l : Row) (w : World) (hl : RunsAt w A n l) (hn : n * 40 ≤ 140737488355328) :
 Calls Tryz.prog 231 #[.slice A n c] w (CloneRunsPost l n w) := by
 have hq := fun w => Lib.run_eql_slice_nil (P := Tryz.prog) w 172 171 A n c 0 0 Tryz.underlying172
 have HL := Lib.hid hl
 clear hl
 cases A with
 | none =>
  have hn0 : n = 0 := by
   rcases Nat.eq_zero_or_pos n with h | h
   · exact h
   · obtain ⟨_, _, h, _⟩ := HL.out.2 h; cases h
  subst hn0
  simp only [Option.isNone_none] at hq
  go_enter Tryz.func231, Tryz.ntmps231
  go_wp2_with fail
  go_ret
  exact ⟨none, 0, rfl, Nat.le_refl _, HL.out, (fun _ h => by cases h), Ext.refl _⟩
 | some ad =>
  simp only [Option.isNone_some] at hq
  go_enter Tryz.func231, Tryz.ntmps231
  go_wp2_with (at_builtin; refine wpList_appendS rfl (.tmp 5) (.tmp 6) 172 rfl info_run Tryz.underlying172 rfl (by decide) (by exact own_nil0 w _ _ w.heap.size (Nat.le_refl _)) (by exact rfl) (by exact rfl) (by exact Sl.ext (Cells.stays _) HL.out.cells ((Ext.refl w).alloc _)) (fun _ => rfl) (by intro r u hu; simp [Run.cells] at hu; rcases hu with rfl | rfl | rfl | rfl | rfl <;> rfl) (by omega) (by simp [maxLen]; omega) (by simp) ?_; intro v' w' hown hgr hnil)
  go_ret
  simp only [Nat.zero_add, List.nil_append] at hown
  obtain ⟨A', c', rfl, hc, _, hsl, hfr⟩ := own_sl (f := Run.cells) (size := 5) (fun _ => rfl) HL.out.len hown
  exact ⟨A', c', rfl, hc, RunsAt.of_cells hsl, Fresh.of_own hown, ((Ext.refl w).alloc _).grown hgr (fun q hq => by simp [Value.ownBlock] at hq; omega)⟩
abbrev Hd := Option Addr × Nat × Nat
def Hd.val (h : Hd) : Value := .slice h.1 h.2.1 h.2.2
def Good (w : World) (h : Hd) (r : Row) : Prop := h.2.1 ≤ h.2.2 ∧ h.2.1 * 40 ≤ 140737488355328 ∧ RunsAt w h.1 h.2.1 r
theorem Good.ext {w w1 : World} {h : Hd} {r : Row} (g : Good w h r) (k : Ext w w1) : Good w1 h r := ⟨g.1, g.2.1, g.2.2.ext k⟩
def Goods (w : World) (hs : List Hd) (l : List Row) : Prop := ∀ (i : Nat) (h : Hd) (r : Row), hs[i]? = some h → l[i]? = some r → Good w h r
def HdsAt (w : World) (A : Option Addr) (n : Nat) (hs : List Hd) : Prop := Sl w 1 (Cells fun h => [Hd.val h]) A n hs
theorem rows_heads {w : World} {A : Option Addr} {n : Nat} {l : List Row} (h : RowsAt w A n l) : ∃ hs : List Hd, HdsAt w A n hs ∧ Goods w hs l := by
 have hall : ∀ i : Nat, ∃ hd : Hd, i < n → (∀ b off, A = some ⟨b, off, none⟩ → w.cell? ⟨b, off + i, none⟩ = some (Hd.val hd)) ∧ ∀ r, l[i]? = some r → Good w hd r := by
  intro i
  by_cases hi : i < n
  · obtain ⟨b, off, r, hA, hr, A', n', c', h1, h2, h3, h4⟩ := h.at_ hi
    refine ⟨(A', n', c'), fun _ => ⟨fun b' off' hA' => ?_, fun r' hr' => ?_⟩⟩
    · rw [hA] at hA'
      cases hA'
      rw [Nat.mul_one] at h1
      exact h1
    · rw [hr] at hr'
      cases hr'
      exact ⟨h2, h3, h4⟩
  · exact ⟨(none, 0, 0), fun h => absurd h hi⟩
 obtain ⟨f, hf⟩ := Classical.axiomOfChoice hall
 refine ⟨(List.range n).map f, ⟨by simp, fun hn => ?_⟩, ?_⟩
 · obtain ⟨b, off, hA, _⟩ := h.2 hn
   refine ⟨b, off, hA, fun i x hx j u hu => ?_⟩
   have hi : i < n := by
    have := (List.getElem?_eq_some_iff.1 hx).1
    simpa using this
   have hx' : x = f i := by
    rw [List.getElem?_map, List.getElem?_range hi] at hx
    exact (Option.some.inj hx).symm
   match j, hu with
   | 0, hu =>
    have hu' : u = Hd.val x := (Option.some.inj hu).symm
    subst hu' hx'
    simpa using (hf i hi).1 b off hA
   | j + 1, hu => simp at hu
 · intro i hd r hh hr
   have hi : i < n := by
    have := (List.getElem?_eq_some_iff.1 hh).1
    simpa using this
   have hx' : hd = f i := by
    rw [List.getElem?_map, List.getElem?_range hi] at hh
    exact (Option.some.inj hh).symm
   subst hx'
   exact (hf i hi).2 r hr
theorem rows_of_heads {w : World} {A : Option Addr} {n : Nat} {l : List Row} {hs : List Hd} (h : HdsAt w A n hs) (hl : l.length = n) (hg : Goods w hs l) : RowsAt w A n l := by
 refine ⟨hl, fun hn => ?_⟩
 obtain ⟨b, off, hA, hc⟩ := h.2 hn
 refine ⟨b, off, hA, fun i r hr => ?_⟩
 have hi : i < hs.length := by
  rw [h.len, ← hl]
  exact (List.getElem?_eq_some_iff.1 hr).1
 have hx : hs[i]? = some hs[i] := List.getElem?_eq_getElem hi
 have g := hg i _ r hx hr
 exact ⟨_, _, _, hc i _ hx 0 _ rfl, g.1, g.2.1, g.2.2⟩
def CloneHdsPost (hs : List Hd) (n : Nat) (w : World) (e : Ending) (w' : World) : Prop :=
 ∃ A c, e = .returned (.slice A n c) ∧ w'.ownsRow w.heap.size 174 1 (.slice A n c) n (hs.flatMap fun h => [Hd.val h]) ∧ Ext w w'
set_option maxHeartbeats 1000000 in
theorem CloneHds_any (A : Option Addr) (n c : Nat) (hs : List Hd) (w : World) (hl : HdsAt w A n hs) (hn : n * 24 ≤ 140737488355328) :
 Calls Tryz.prog 230 #[.slice A n c] w (CloneHdsPost hs n w) := by
 have hq := fun w => Lib.run_eql_slice_nil (P := Tryz.prog) w 62 174 A n c 0 0 Tryz.underlying62
 have HL := Lib.hid hl
 clear hl
 cases A with
 | none =>
  have hn0 : n = 0 := by
   rcases Nat.eq_zero_or_pos n with h | h
   · exact h
   · obtain ⟨_, _, h, _⟩ := HL.out.2 h; cases h
  subst hn0
  have hs0 : hs = [] := List.eq_nil_of_length_eq_zero HL.out.len
  subst hs0
  simp only [Option.isNone_none] at hq
  go_enter Tryz.func230, Tryz.ntmps230
  go_wp2_with fail
  go_ret
  exact ⟨none, 0, rfl, ⟨rfl, .inl ⟨rfl, rfl⟩⟩, Ext.refl _⟩
 | some ad =>
  simp only [Option.isNone_some] at hq
  go_enter Tryz.func230, Tryz.ntmps230
  go_wp2_with (at_builtin; refine wpList_appendS rfl (.tmp 5) (.tmp 6) 62 rfl info_row Tryz.underlying62 rfl (by decide) (by exact own_nil0 w _ _ w.heap.size (Nat.le_refl _)) (by exact rfl) (by exact rfl) (by exact Sl.ext (Cells.stays _) HL.out ((Ext.refl w).alloc _)) (fun _ => rfl) (by intro r u hu; simp at hu; subst hu; rfl) (by omega) (by simp [maxLen]; omega) (by simp) ?_; intro v' w' hown hgr hnil)
  go_ret
  simp only [Nat.zero_add, List.nil_append] at hown
  obtain ⟨A', c', rfl, hc, _, hsl, hfr⟩ := own_sl (f := fun h : Hd => [Hd.val h]) (size := 1) (fun _ => rfl) HL.out.len hown
  exact ⟨A', c', rfl, hown, ((Ext.refl w).alloc _).grown hgr (fun q hq => by simp [Value.ownBlock] at hq; omega)⟩
def RowsFresh (w : World) (L : Nat) (A : Option Addr) (n : Nat) (l : List Row) : Prop :=
 ∃ hs : List Hd, HdsAt w A n hs ∧ Goods w hs l ∧ l.length = n ∧ Fresh w 174 L A ∧ ∀ h ∈ hs, Fresh w 171 L h.1
theorem RowsFresh.rows {w : World} {L : Nat} {A : Option Addr} {n : Nat} {l : List Row} (h : RowsFresh w L A n l) : RowsAt w A n l := by
 obtain ⟨hs, h1, h2, h3, _⟩ := h
 exact rows_of_heads h1 h3 h2
theorem RowsFresh.ext {w w1 : World} {L : Nat} {A : Option Addr} {n : Nat} {l : List Row} (h : RowsFresh w L A n l) (k : Ext w w1) : RowsFresh w1 L A n l := by
 obtain ⟨hs, h1, h2, h3, h4, h5⟩ := h
 exact ⟨hs, Sl.ext (Cells.stays _) h1 k, fun i hd r a b => (h2 i hd r a b).ext k, h3, h4.ext k, fun x hx => (h5 x hx).ext k⟩
theorem RowsFresh.le {w : World} {L L' : Nat} {A : Option Addr} {n : Nat} {l : List Row} (h : RowsFresh w L A n l) (hl : L' ≤ L) : RowsFresh w L' A n l := by
 obtain ⟨hs, h1, h2, h3, h4, h5⟩ := h
 exact ⟨hs, h1, h2, h3, h4.le hl, fun x hx => (h5 x hx).le hl⟩
def Apart (g : Nat) (h : Hd) : Prop := 0 < h.2.1 → ∀ ad, h.1 = some ad → ad.block ≠ g
theorem Sl.keep {α : Type} {C : World → Nat → Nat → α → Prop} {w w1 : World} {size n : Nat} {A : Option Addr} {l : List α} (h : Sl w size C A n l) (hk : 0 < n → ∀ b off, A = some ⟨b, off, none⟩ → ∀ o x, C w b o x → C w1 b o x) : Sl w1 size C A n l :=
 ⟨h.1, fun hn => (h.2 hn).elim fun b hb => hb.elim fun off ho => ⟨b, off, ho.1, fun i x hx => hk hn b off ho.1 _ _ (ho.2 i x hx)⟩⟩
theorem RunC.set {w : World} {b o : Nat} {r : Run} (h : RunC w b o r) {p : Addr} (hp : b ≠ p.block) (u : Value) : RunC (w.setCell p u) b o r := by
 have key : ∀ q v, w.cell? ⟨b, q, none⟩ = some v → (w.setCell p u).cell? ⟨b, q, none⟩ = some v := fun q v hv => by
  rw [World.cell?_setCell_other w p ⟨b, q, none⟩ u (fun e => hp (by rw [e]))]; exact hv
 exact ⟨key _ _ h.1, key _ _ h.2.1, key _ _ h.2.2.1, key _ _ h.2.2.2.1, key _ _ h.2.2.2.2⟩
theorem Good.set {w : World} {h : Hd} {r : Row} (g : Good w h r) {p : Addr} (hp : Apart p.block h) (u : Value) : Good (w.setCell p u) h r :=
 ⟨g.1, g.2.1, Sl.keep g.2.2 fun hn b off hA o x hx => hx.set (hp hn _ hA) u⟩
def RowsOwn (w : World) (L : Nat) (A : Option Addr) (n c : Nat) (l : List Row) : Prop :=
 ∃ hs : List Hd, w.ownsRow L 174 1 (.slice A n c) n (hs.flatMap fun h => [Hd.val h]) ∧ hs.length = n ∧ Goods w hs l ∧ l.length = n ∧ ∀ h ∈ hs, Fresh w 171 L h.1
theorem RowsOwn.fresh {w : World} {L : Nat} {A : Option Addr} {n c : Nat} {l : List Row} (h : RowsOwn w L A n c l) : RowsFresh w L A n l := by
 obtain ⟨hs, h1, h2, h3, h4, h5⟩ := h
 obtain ⟨A', c', hv, _, _, hsl, _⟩ := own_sl (f := fun h : Hd => [Hd.val h]) (size := 1) (fun _ => rfl) h2 h1
 injection hv with e1 e2 e3
 subst e1 e3
 exact ⟨hs, hsl, h3, h4, Fresh.of_own h1, h5⟩
theorem RowsOwn.ext {w w1 : World} {L : Nat} {A : Option Addr} {n c : Nat} {l : List Row} (h : RowsOwn w L A n c l) (k : Ext w w1) : RowsOwn w1 L A n c l := by
 obtain ⟨hs, h1, h2, h3, h4, h5⟩ := h
 exact ⟨hs, own_ext h1 k, h2, fun i hd r a b => (h3 i hd r a b).ext k, h4, fun x hx => (h5 x hx).ext k⟩
theorem own_le {w : World} {L L' : Nat} {e : TypeId} {size : Nat} {v : Value} {n : Nat} {xs : List Value} (h : w.ownsRow L e size v n xs) (hl : L' ≤ L) : w.ownsRow L' e size v n xs := by
 refine ⟨h.1, ?_⟩
 rcases h.2 with hn | ⟨g, cap, cur, rfl, hb, rest⟩
 · exact .inl hn
 · exact .inr ⟨g, cap, cur, rfl, Nat.le_trans hl hb, rest⟩
theorem RowsOwn.le {w : World} {L L' : Nat} {A : Option Addr} {n c : Nat} {l : List Row} (h : RowsOwn w L A n c l) (hl : L' ≤ L) : RowsOwn w L' A n c l := by
 obtain ⟨hs, h1, h2, h3, h4, h5⟩ := h
 exact ⟨hs, own_le h1 hl, h2, h3, h4, fun x hx => (h5 x hx).le hl⟩
def SOwnPost (rows : List Row) (n : Nat) (w : World) (e : Ending) (w' : World) : Prop :=
 ∃ A c, e = .returned (.slice A n c) ∧ n ≤ c ∧ RowsOwn w' w.heap.size A n c rows ∧ Ext w w'
def SCloneRel (w : World) (rows : List Row) (A : Option Addr) (n c : Nat) (i : Value) (wr : World) : Prop :=
 ∃ (k : Nat) (hs : List Hd), k ≤ n ∧ i = .int .i64 k ∧ hs.length = n ∧ wr.ownsRow w.heap.size 174 1 (.slice A n c) n (hs.flatMap fun h => [Hd.val h]) ∧ Ext w wr ∧ Goods wr hs rows ∧
  (∀ ad, A = some ad → ∀ h ∈ hs, Apart ad.block h) ∧ (∀ j h, j < k → hs[j]? = some h → Fresh wr 171 w.heap.size h.1)
theorem flatMap_set (hs : List Hd) (k : Nat) (h : Hd) : (hs.set k h).flatMap (fun h => [Hd.val h]) = (hs.flatMap fun h => [Hd.val h]).set k (Hd.val h) := by
 have e : ∀ l : List Hd, (l.flatMap fun h => [Hd.val h]) = l.map Hd.val := fun l => by induction l <;> simp_all
 rw [e, e, List.map_set]
def SClonePost (rows : List Row) (n : Nat) (w : World) (e : Ending) (w' : World) : Prop :=
 ∃ A c, e = .returned (.slice A n c) ∧ n ≤ c ∧ RowsFresh w' w.heap.size A n rows ∧ Ext w w'
theorem sclone_step {w wr w2 : World} {rows : List Row} {n c g k : Nat} {hs : List Hd} {hd : Hd} {r : Row} {A2 : Option Addr} {c2 : Nat} (hlt : k < n) (hx : Ext w wr) (hx2 : Ext wr w2) (hsl : hs.length = n)
 (hO : wr.ownsRow w.heap.size 174 1 (.slice (some ⟨g, 0, none⟩) n c) n (hs.flatMap fun h => [Hd.val h])) (hgb : w.heap.size ≤ g) (hglt : g < wr.heap.size) (hG : Goods wr hs rows)
 (hA : ∀ h ∈ hs, Apart g h) (hF : ∀ (j : Nat) (h : Hd), j < k → hs[j]? = some h → Fresh wr 171 w.heap.size h.1) (hr : rows[k]? = some r) (hn40 : hd.2.1 * 40 ≤ 140737488355328) (hnc : hd.2.1 ≤ c2) (hru : RunsAt w2 A2 hd.2.1 r) (hfr : Fresh w2 171 wr.heap.size A2) :
 SCloneRel w rows (some ⟨g, 0, none⟩) n c (.int .i64 ((k : Int) + 1)) (w2.setCell ⟨g, k, none⟩ (.slice A2 hd.2.1 c2)) := by
 have hap : Apart g (A2, hd.2.1, c2) := fun _ ad had => by have := (hfr ad had).1; omega
 refine ⟨k + 1, hs.set k (A2, hd.2.1, c2), by omega, by simp, by simpa using hsl, ?_, (hx.trans hx2).setCell hgb _, ?_, ?_, ?_⟩
 · rw [flatMap_set]
   exact ((own_ext hO hx2).stored k _).1
 · intro i h q hi hq
   by_cases hik : k = i
   · subst hik
     rw [List.getElem?_set_self (by rw [hsl]; exact hlt)] at hi
     cases hi
     rw [hr] at hq
     cases hq
     exact Good.set (h := (A2, hd.2.1, c2)) (p := ⟨g, k, none⟩) ⟨hnc, hn40, hru⟩ hap _
   · rw [List.getElem?_set_ne hik] at hi
     exact Good.set (p := ⟨g, k, none⟩) ((hG i h q hi hq).ext hx2) (hA h (List.mem_of_getElem? hi)) _
 · intro ad had h hm
   cases had
   rcases List.mem_or_eq_of_mem_set hm with h1 | h1
   · exact hA h h1
   · subst h1; exact hap
 · intro j h hj hh
   by_cases hik : k = j
   · subst hik
     rw [List.getElem?_set_self (by rw [hsl]; exact hlt)] at hh
     cases hh
     exact (hfr.le hx.size).setCell _ _
   · rw [List.getElem?_set_ne hik] at hh
     exact ((hF j h (by omega) hh).ext hx2).setCell _ _
set_option maxRecDepth 100000 in
set_option maxHeartbeats 2000000 in
theorem SClone_own (A : Option Addr) (n c : Nat) (rows : List Row) (w : World) (hl : RowsAt w A n rows) (hn : n * 24 ≤ 140737488355328) :
 Calls Tryz.prog 184 #[.slice A n c] w (SOwnPost rows n w) := by
 obtain ⟨hs0, hh0, hg0⟩ := rows_heads hl
 have HLn := Lib.hid hl.len
 have HH := Lib.hid hh0
 have HG := Lib.hid hg0
 have HH0 := Lib.hid hh0.len
 have hold : Hid (∀ h ∈ hs0, ∀ g, w.heap.size ≤ g → Apart g h) := by
  intro h hm g hg hp ad had
  obtain ⟨i, hi⟩ := List.getElem?_of_mem hm
  have hil : i < rows.length := by
   rw [HLn.out, ← HH0.out]
   exact (List.getElem?_eq_some_iff.1 hi).1
  have hgd := hg0 i h _ hi (List.getElem?_eq_getElem hil)
  obtain ⟨b, off, x, hA, hx, hC⟩ := hgd.2.2.at_ (i := 0) hp
  rw [hA] at had
  cases had
  have := World.block_lt_of_cell? w _ hC.1
  exact fun e => by simp only at e this; omega
 clear hl hh0 hg0
 go_enter Tryz.func184, Tryz.ntmps184
 go_wp2_with fail
 refine (CloneHds_any A n c hs0 _ HH.out hn).mono ?_
 rintro e w1 ⟨A1, c1, rfl, hown1, hx1⟩
 have HO1 := Lib.hid hown1
 clear hown1
 go_wp2_with fail
 go_loopw [9] (fun i wr => SCloneRel w rows A1 n c1 i wr) (fun i _ => n - (intOf i).toNat)
 case atStart =>
  refine ⟨0, hs0, Nat.zero_le _, rfl, HH0.out, HO1.out, hx1, fun i h r a b => (HG.out i h r a b).ext hx1, fun ad hA h hm => ?_, fun j h hj => absurd hj (by omega)⟩
  subst hA
  exact hold.out h hm _ (own_lt HO1.out _ rfl)
 case round =>
  obtain ⟨k, hs, hk, rfl, hsl, hown, hx, hgd, hap, hfr⟩ := hrel
  have HGd := Lib.hid hgd
  have HAp := Lib.hid hap
  have HFr := Lib.hid hfr
  have HSl := Lib.hid hsl
  have HO := Lib.hid hown
  clear hgd hap hfr hsl hown
  by_cases hlt : k < n
  · obtain ⟨g, cp, hv, hgb, hglt⟩ := own_form HO.out (by omega)
    have hA1 : A1 = some ⟨g, 0, none⟩ := by injection hv
    subst hA1
    have hcell := Lib.hid (HO.out.cellAt k (by omega))
    obtain ⟨hd, hhd⟩ : ∃ hd, hs[k]? = some hd := ⟨_, List.getElem?_eq_getElem (by rw [HSl.out]; exact hlt)⟩
    obtain ⟨r, hr⟩ : ∃ r, rows[k]? = some r := ⟨_, List.getElem?_eq_getElem (by rw [HLn.out]; exact hlt)⟩
    have hck : wr.cell? ⟨g, k, none⟩ = some (.slice hd.1 hd.2.1 hd.2.2) := by
     rw [hcell.out]
     have := flatMap_at (fun h : Hd => [Hd.val h]) 1 (fun _ => rfl) hs k hd 0 hhd (by omega)
     simp only [Nat.mul_one, Nat.add_zero] at this
     rw [this]
     rfl
    have hfz : wr.frozen? ⟨g, k, none⟩ = false := HO.out.frozenAt k
    have hgk := HGd.out k hd r hhd hr
    have HGk := Lib.hid hgk
    have hn40 : hd.2.1 * 40 ≤ 140737488355328 := hgk.2.1
    have HHd := Lib.hid hhd
    have HRr := Lib.hid hr
    clear hgk hhd hr
    go_wp2_with fail
    refine (CloneRuns_any hd.1 hd.2.1 hd.2.2 r _ HGk.out.2.2 hn40).mono ?_
    rintro e w2 ⟨A2, c2, rfl, hnc2, hru2, hfr2, hx2⟩
    have hck2 : w2.cell? ⟨g, k, none⟩ = some (.slice hd.1 hd.2.1 hd.2.2) := hx2.cell hck
    have hfz2 : w2.frozen? ⟨g, k, none⟩ = false := hx2.frozen hck hfz
    have HRu2 := Lib.hid hru2
    clear hru2 hck hfz
    go_wp2_with fail
    exact ⟨sclone_step hlt hx hx2 HSl.out HO.out hgb hglt HGd.out (fun h hm => HAp.out _ rfl h hm) HFr.out HRr.out hn40 hnc2 HRu2.out hfr2, by simp [intOf]; omega⟩
  · have hkn : k = n := by omega
    subst hkn
    go_wp2_with fail
    go_ret
    obtain ⟨A', c', hv, hc, _, hsl', hfr'⟩ := own_sl (f := fun h : Hd => [Hd.val h]) (size := 1) (fun _ => rfl) HSl.out HO.out
    injection hv with hv1 hv2 hv3
    subst hv1 hv3
    refine ⟨A1, c1, rfl, hc, ⟨hs, HO.out, HSl.out, HGd.out, HLn.out, fun h hm => ?_⟩, hx⟩
    obtain ⟨j, hj⟩ := List.getElem?_of_mem hm
    exact HFr.out j h (by rw [← HSl.out]; exact (List.getElem?_eq_some_iff.1 hj).1) hj
end
section
open Go.RowKit Go.ChangeShapes Go.WideShapes Go.ChangeAt
set_option maxRecDepth 100000
def Run.Fits (r : Run) : Prop := r.text.size ≤ 140737488351232 ∧ r.ruby.size ≤ 140737488351232 ∧ 0 ≤ r.color ∧ r.color ≤ 255
def RowFits (r : Row) : Prop := (∀ x ∈ r, x.Fits) ∧ r.length * 40 ≤ 140737488351232
def Ev.Fits (e : Ev) : Prop := e.region.size ≤ 140737488351232 ∧ e.speaker.size ≤ 140737488351232 ∧ (0 ≤ e.kind ∧ e.kind ≤ 255) ∧ (-9223372036854775808 ≤ e.id ∧ e.id ≤ 9223372036854775807) ∧ (-9223372036854775808 ≤ e.inn ∧ e.inn ≤ 9223372036854775807) ∧ (-9223372036854775808 ≤ e.out ∧ e.out ≤ 9223372036854775807) ∧ (∀ r ∈ e.rows, RowFits r) ∧ e.rows.length * 24 ≤ 140737488351232
def wzero {H : Type} : DataW H := .agg [.lit (.int .i64 0), .agg [.lit (.int .i64 0), .lit (.int .i64 0)], .lit (.string []), .lit (.int .u8 0), .lit (.string []), .nil]
end
section
open Go.RowKit
def Ev.frames (e : Ev) : Int := if spansB e.inn e.out = true then e.out - e.inn else 0
def lenSum : Int → List Int → Int
 | s, [] => s
 | s, n :: l => if n < 0 then -1 else lenSum (s + n) l
def Ev.len (e : Ev) : Int := lenSum (max ((e.rows.length : Int) - 1) 0) (e.rows.map rowLen)
def Ev.bytes (e : Ev) : Nat := (e.rows.map rowBytes).sum
theorem rowLen_le : ∀ l : Row, rowLen l ≤ rowBytes l
 | [] => by simp [rowLen, rowBytes]
 | r :: l => by
  have h1 := rowLen_le l
  have h2 := clen_le r.text
  rw [rowBytes_cons]
  unfold rowLen
  split
  · omega
  · split <;> omega
def sumNat (l : List Nat) : Nat := l.sum
theorem sum_take_le (l : List Row) (k : Nat) (r : Row) (h : l[k]? = some r) : ((l.take k).map rowBytes).sum + rowBytes r ≤ (l.map rowBytes).sum := by
 have e := List.take_append_drop k l
 have h1 : (l.map rowBytes).sum = ((l.take k).map rowBytes).sum + ((l.drop k).map rowBytes).sum := by
  conv => lhs; rw [← e]
  rw [List.map_append, List.sum_append]
 rw [h1, drop_at l k r h]
 simp
def ELenRel (n : Nat) (e : Ev) (v i : Value) : Prop :=
 ∃ (k : Nat) (s : Int), k ≤ n ∧ i = .int .i64 k ∧ v = .int .i64 s ∧ 0 ≤ s ∧ s ≤ n + ((e.rows.take k).map rowBytes).sum ∧ e.len = lenSum s ((e.rows.map rowLen).drop k)
set_option maxRecDepth 100000 in
set_option maxHeartbeats 2000000 in
theorem ELen_any (e : Ev) (A : Option Addr) (n c : Nat) (w : World) (hE : Env w) (he : EvAt w e A n c) (hb : ∀ r ∈ e.rows, RowSmall r) (hby : e.bytes ≤ 1099511627776) :
 Calls Tryz.prog 199 #[.agg (e.cells A n c)] w fun en w' => en = .returned (.int .i64 e.len) ∧ Ext w w' := by
 have hn24 : n * 24 ≤ 140737488355328 := by have := he.2; omega
 have HL := Lib.hid (fun w hE he => lens_any e A n c w hE he hb)
 have HA := Lib.hid he
 have HLn := Lib.hid he.len
 have HEn := Lib.hid hE
 clear he hE hb
 unfold Ev.cells at HL ⊢
 go_enter Tryz.func199, Tryz.ntmps199
 go_wp2_with fail
 refine (HL.out _ (HEn.out.ext ((Ext.refl w).alloc _)) (HA.out.ext ((Ext.refl w).alloc _))).mono ?_
 rintro en w1 ⟨A1, n1, c1, rfl, hints, hnc1, hx1⟩
 have hxw1 : Ext w w1 := ((Ext.refl w).alloc _).trans hx1
 obtain rfl : n = n1 := by rw [← HLn.out, ← hints.len, List.length_map]
 have HI := Lib.hid hints
 clear hints
 go_wp2_with fail
 go_loop [3, 14] (fun v i => ELenRel n e v i) (fun _ i => n - (intOf i).toNat)
 case atStart => exact ⟨0, _, Nat.zero_le _, rfl, rfl, by omega, by simp; omega, by unfold Ev.len; rw [HLn.out]; rfl⟩
 case round =>
  obtain ⟨k, s, hk, rfl, rfl, hs0, hs1, hp⟩ := hrel
  have HP := Lib.hid hp
  clear hp
  by_cases hlt : k < n
  · obtain ⟨b, off, x, rfl, hxx, hcell⟩ := HI.out.cell hlt
    have HD := Lib.hid (drop_at _ k x hxx)
    rw [List.getElem?_map] at hxx
    obtain ⟨r, hr, rfl⟩ := Option.map_eq_some_iff.1 hxx
    have h1 := sum_take_le e.rows k r hr
    have h2 := rowLen_le r
    have h3 : Hid (((e.rows.take (k + 1)).map rowBytes).sum = ((e.rows.take k).map rowBytes).sum + rowBytes r) := by
     show _ = _
     rw [take_snoc' e.rows k r hr, List.map_append, List.sum_append]
     simp
    have hby' : (e.rows.map rowBytes).sum ≤ 1099511627776 := hby
    have hs2 : s + rowLen r ≤ 4611686018427387904 := by omega
    have hs3 : s ≤ 4611686018427387904 := by omega
    clear hr hxx h1 hby'
    by_cases hneg : rowLen r < 0
    · go_wp2_with fail
      go_ret
      exact ⟨ret_int (by rw [HP.out, HD.out, lenSum, if_pos (by omega)]), hxw1⟩
    · go_wp2_with fail
      refine ⟨⟨k + 1, s + rowLen r, by omega, by go_num, rfl, by omega, ?_, ?_⟩, by simp [intOf]; omega⟩
      · rw [h3.out]; omega
      · rw [HP.out, HD.out, lenSum, if_neg (by omega)]
  · have HD : Hid ((e.rows.map rowLen).drop k = []) := List.drop_eq_nil_of_le (by rw [List.length_map, HLn.out]; omega)
    go_wp2_with fail
    go_ret
    exact ⟨ret_int (by rw [HP.out, HD.out]; rfl), hxw1⟩
def Ev.text (e : Ev) : List UInt8 := Lib.join (e.rows.map rowText) [10]
def EPlainRel (w : World) (bx : Array Value) (n : Nat) (rows : List Row) (v i : Value) (wr : World) : Prop :=
 ∃ k : Nat, k ≤ n ∧ i = .int .i64 k ∧ Ext (w.alloc (.cells bx 64)) wr ∧ wr.ownsRow (w.heap.size + 1) 9 1 v k (((rows.take k).map textOf).flatMap fun x => [Value.string x])
end
section
open Go.RowKit
def RegsSmall (l : List Reg) : Prop := ∀ r ∈ l, r.name.size ≤ 9223372036854775807
theorem findR_small {l : List Reg} {nm : ByteArray} (h : RegsSmall l) : ((findR l nm).getD Reg.zero).name.size ≤ 9223372036854775807 := by
 unfold findR
 split
 · show ByteArray.empty.size ≤ _
   decide
 · cases hf : l.find? (fun r => r.name.toList == nm.toList) with
   | none => show ByteArray.empty.size ≤ _; decide
   | some r => exact h r (List.mem_of_find?_eq_some hf)
def Ev.spotsErr (e : Ev) (regs : List Reg) : Int :=
 match findR regs e.region with
 | none => 6
 | some r => if (e.rows.map rowLen).any (fun n => decide (n < 0)) = true then 10 else r.place (e.rows.map rowLen)
def Ev.spots (e : Ev) (regs : List Reg) : List Spot :=
 if e.spotsErr regs = 0 then ((findR regs e.region).getD Reg.zero).spots (((findR regs e.region).getD Reg.zero).top' e.rows.length) 0 (e.rows.map rowLen) else []
def SpotsPost (e : Ev) (regs : List Reg) (w : World) (en : Ending) (w' : World) : Prop :=
 ∃ A n c, en = .returned (.tuple #[.slice A n c, .int .i64 (e.spotsErr regs)]) ∧ SpotsAt w' A n (e.spots regs) ∧ n ≤ c ∧ Ext w w'
def NegRel (n : Nat) (l : List Int) (i : Value) : Prop := ∃ k : Nat, k ≤ n ∧ i = .int .i64 k ∧ l.any (fun n => decide (n < 0)) = (l.drop k).any (fun n => decide (n < 0))
end
end Go.Proofs.YtablhmobekmflaaGreatDoor