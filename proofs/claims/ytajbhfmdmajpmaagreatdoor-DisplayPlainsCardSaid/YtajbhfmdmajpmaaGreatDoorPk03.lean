/- Laid together: The walks of package region (usable, Find, Place). The walk of region.Place. The walk of region.Find. Events in memory, and the walks of event.lens, Frames, Len. Copies of rows: slices.Clone, style.Clone. Events among the arguments, opened; the environment out of the row's list; what the frame of a law asks behind the call. The walks of event.Frames, Len, Plain. The walks of event.Spots and event.Check. -/
import Derived.Test.YtajbhfmdmajpmaaGreatDoorPk02
import Derived.Test.YtajbhfmdmajpmaaGreatDoorPk01
import Derived.Lib.SliceRun
import Derived.Test.YtajbhfmdmajpmaaGreatDoorShelf
import Derived.Lib.LaidU8T
import Derived.Deep.DeepHandedRow
import Derived.Lib.LaidTab
import Derived.Lib.Join

/-! RegionB -/
namespace Go.Proofs.YtajbhfmdmajpmaaGreatDoor
set_option linter.unusedVariables false
set_option linter.unusedSimpArgs false
open Go.RowKit
def Reg.usable (r : Reg) : Bool := decide (r = Reg.default ∨ r.check = 0)
def RegC (w : World) (b o : Nat) (r : Reg) : Prop :=
  w.cell? ⟨b, o, none⟩ = some (.string r.name) ∧ w.cell? ⟨b, o + 1, none⟩ = some (.int .i64 r.top) ∧ w.cell? ⟨b, o + 2, none⟩ = some (.int .i64 r.height) ∧ w.cell? ⟨b, o + 3, none⟩ = some (.int .i64 r.left) ∧
  w.cell? ⟨b, o + 4, none⟩ = some (.int .i64 r.width) ∧ w.cell? ⟨b, o + 5, none⟩ = some (.int .u8 r.align) ∧ w.cell? ⟨b, o + 6, none⟩ = some (.bool r.bottom)
theorem RegC.stays : Stays RegC := fun _ _ _ _ _ k h => ⟨k.cell h.1, k.cell h.2.1, k.cell h.2.2.1, k.cell h.2.2.2.1, k.cell h.2.2.2.2.1, k.cell h.2.2.2.2.2.1, k.cell h.2.2.2.2.2.2⟩
set_option maxHeartbeats 1000000 in
theorem usable_any (r : Reg) (w : World) (hs : r.name.size ≤ 9223372036854775807) : Calls Tryz.prog 133 #[r.val] w fun e w' => e = .returned (.bool r.usable) ∧ Ext w w' := by
  have hR := fun w => RCheck_any r w hs
  by_cases hd : r = Reg.default
  · have HF : Hid (r.usable = true) := by show r.usable = true; unfold Reg.usable; exact decide_eq_true (.inl hd)
    have hq := fun w => eql_reg_yes Reg.default w
    subst hd
    clear hR hs
    unfold Reg.val Reg.default at hq ⊢
    unfold Reg.default at HF
    dsimp only at hq HF ⊢
    go_enter Tryz.func133, Tryz.ntmps133
    go_wp2_with fail
    go_region_with (first | (go_at_call 128; refine (Default_any _).mono ?_; rintro e w1 ⟨rfl, hx1⟩; have hx1' := Lib.hid hx1; (have hc := fun o u => hx1.cell (p := ⟨w.heap.size, o, none⟩) (u := u)); simp at hc; clear hx1; unfold Reg.val Reg.default))
    all_goals go_wp2
    all_goals go_ret
    all_goals exact ⟨by rw [HF.out]; rfl, (((Ext.refl w).alloc _).drew).trans hx1'.out⟩
  · obtain ⟨nm, top, hgt, lft, wid, al, bot⟩ := r
    have hq := fun w => eql_reg_no hd w
    have HR := Lib.hid hR
    have HF : Hid (Reg.usable ⟨nm, top, hgt, lft, wid, al, bot⟩ = decide (Reg.check ⟨nm, top, hgt, lft, wid, al, bot⟩ = 0)) := by
      show Reg.usable _ = _
      unfold Reg.usable
      congr 1
      simp [hd]
    clear hR hd
    unfold Reg.val at HR ⊢
    unfold Reg.val Reg.default at hq
    dsimp only at HR hq ⊢
    go_enter Tryz.func133, Tryz.ntmps133
    go_wp2_with fail
    go_region_held3 (fun w' => w'.cell? ⟨w.heap.size, 0, none⟩ = some (.string nm) ∧ w'.cell? ⟨w.heap.size, 1, none⟩ = some (.int .i64 top) ∧ w'.cell? ⟨w.heap.size, 2, none⟩ = some (.int .i64 hgt) ∧ w'.cell? ⟨w.heap.size, 3, none⟩ = some (.int .i64 lft) ∧ w'.cell? ⟨w.heap.size, 4, none⟩ = some (.int .i64 wid) ∧ w'.cell? ⟨w.heap.size, 5, none⟩ = some (.int .u8 al) ∧ w'.cell? ⟨w.heap.size, 6, none⟩ = some (.bool bot))
      (first | go_keep | (go_split_ands; refine ⟨?_, ?_, ?_, ?_, ?_, ?_, ?_⟩ <;> (apply hx2.cell; assumption)) | (go_split_ands; refine ⟨?_, ?_, ?_, ?_, ?_, ?_, ?_⟩ <;> (apply hx1.cell; assumption)))
      (first | (go_at_call 128; refine (Default_any _).mono ?_; rintro e w1 ⟨rfl, hx1⟩; unfold Reg.val Reg.default) | (go_at_call 85; refine (HR.out _).mono ?_; rintro e w2 ⟨rfl, hx2⟩))
    go_wp2
    all_goals go_ret
    all_goals exact ⟨by rw [HF.out]; exact ret_bool rfl, ((((Ext.refl w).alloc _).drew).trans hx1).trans hx2⟩
end Go.Proofs.YtajbhfmdmajpmaaGreatDoor

/-! Place -/
namespace Go.Proofs.YtajbhfmdmajpmaaGreatDoor
set_option linter.unusedVariables false
set_option linter.unusedSimpArgs false
open Go.RowKit
def IntsAt (w : World) (A : Option Addr) (n : Nat) (l : List Int) : Prop := Sl w 1 (Cells fun x => [.int .i64 x]) A n l
theorem IntsAt.ext {w w1 : World} {A : Option Addr} {n : Nat} {l : List Int} (h : IntsAt w A n l) (k : Ext w w1) : IntsAt w1 A n l := Sl.ext (Cells.stays _) h k
theorem IntsAt.cell {w : World} {A : Option Addr} {n : Nat} {l : List Int} (h : IntsAt w A n l) {i : Nat} (hi : i < n) : ∃ b off x, A = some ⟨b, off, none⟩ ∧ l[i]? = some x ∧ w.cell? ⟨b, off + i, none⟩ = some (.int .i64 x) := by
  obtain ⟨b, off, x, hA, hx, hc⟩ := h.at_ hi
  exact ⟨b, off, x, hA, hx, by simpa using hc 0 (.int .i64 x) rfl⟩
structure Spot where
  row : Int
  col : Int
  len : Int
  deriving DecidableEq
def Spot.cells (s : Spot) : List Value := [.int .i64 s.row, .int .i64 s.col, .int .i64 s.len]
def Spot.val (s : Spot) : Value := .agg s.cells.toArray
def SpotsAt (w : World) (A : Option Addr) (n : Nat) (l : List Spot) : Prop := Sl w 3 (Cells Spot.cells) A n l
def Reg.spot (r : Reg) (top : Int) (i : Nat) (n : Int) : Spot := ⟨top + i, if r.align = 3 then r.left + (r.width - n) else if r.align = 2 then r.left + (r.width - n) / 2 else r.left, n⟩
def Reg.spots (r : Reg) (top : Int) : Nat → List Int → List Spot
  | _, [] => []
  | i, n :: l => r.spot top i n :: r.spots top (i + 1) l
def Reg.lensErr (r : Reg) : List Int → Int
  | [] => 0
  | n :: l => if n < 0 then 2 else if r.width < n then 11 else r.lensErr l
def Reg.top' (r : Reg) (n : Nat) : Int := if r.bottom then r.top + (r.height - n) else r.top
/-- the cells of rows of these lengths, and the error -/
def Reg.place (r : Reg) (lens : List Int) : Int := if r.usable = false then 1 else if r.height < lens.length then 9 else r.lensErr lens
theorem spots_snoc (r : Reg) (top : Int) : ∀ (l : List Int) (i : Nat) (n : Int), r.spots top i (l ++ [n]) = r.spots top i l ++ [r.spot top (i + l.length) n]
  | [], i, n => by simp [Reg.spots]
  | a :: l, i, n => by
    simp only [List.cons_append, Reg.spots, spots_snoc r top l (i + 1) n, List.length_cons]
    rw [show i + 1 + l.length = i + (l.length + 1) by omega]
theorem spots_len (r : Reg) (top : Int) : ∀ (l : List Int) (i : Nat), (r.spots top i l).length = l.length
  | [], i => rfl
  | a :: l, i => by simp [Reg.spots, spots_len r top l (i + 1)]
theorem lensErr_drop (r : Reg) (l : List Int) (k : Nat) (x : Int) (hx : l[k]? = some x) : r.lensErr (l.drop k) = if x < 0 then 2 else if r.width < x then 11 else r.lensErr (l.drop (k + 1)) := by
  have hkl := (List.getElem?_eq_some_iff.1 hx).1
  rw [List.drop_eq_getElem_cons hkl, (List.getElem?_eq_some_iff.1 hx).2]
  rfl
/-- the bounds of a region that can be used -/
theorem usable_bounds {r : Reg} (h : r.usable = true) : (0 ≤ r.top ∧ r.top ≤ 14) ∧ (1 ≤ r.height ∧ r.height ≤ 15) ∧ (0 ≤ r.left ∧ r.left ≤ 31) ∧ (1 ≤ r.width ∧ r.width ≤ 32) := by
  unfold Reg.usable at h
  rcases of_decide_eq_true h with h | h
  · subst h; decide
  · unfold Reg.check at h
    split at h
    · omega
    · split at h
      · omega
      · rename_i h1 h2
        have h2' : r.inGrid := by simpa using h2
        unfold Reg.inGrid at h2'
        omega
def PlaceRelI (w : World) (bx : Array Value) (r : Reg) (top : Int) (n : Nat) (lens : List Int) (v i : Value) (wr : World) : Prop :=
  ∃ k : Nat, k ≤ n ∧ i = .int .i64 k ∧ Ext (w.alloc (.cells bx 125)) wr ∧ r.lensErr lens = r.lensErr (lens.drop k) ∧
    wr.ownsRow (w.heap.size + 1) 119 3 v k ((r.spots top 0 (lens.take k)).flatMap Spot.cells)
theorem info_spot : (Tryz.prog.info? 119).map (fun i => (i.zero, i.size, i.bytes)) = some (some (.agg #[.int .i64 0, .int .i64 0, .int .i64 0]), 3, 24) := by kernel_rfl
/-- what Place returns -/
def PlacePost (r : Reg) (lens : List Int) (w : World) (e : Ending) (w' : World) : Prop :=
  ∃ A n c, e = .returned (.tuple #[.slice A n c, .int .i64 (r.place lens)]) ∧ SpotsAt w' A n (if r.place lens = 0 then r.spots (r.top' lens.length) 0 lens else []) ∧ n ≤ c ∧ Ext w w'
theorem placePost_err {r : Reg} {lens : List Int} {w w' : World} {e : Ending} {k : Int} (hk : r.place lens = k) (h0 : k ≠ 0) (he : e = .returned (.tuple #[.slice none 0 0, .int .i64 k])) (hx : Ext w w') : PlacePost r lens w e w' :=
  ⟨none, 0, 0, by rw [hk]; exact he, by rw [if_neg (by rw [hk]; exact h0)]; exact Sl.nil, Nat.le_refl _, hx⟩
theorem placePost_ok {r : Reg} {lens : List Int} {w w' : World} {v : Value} {n base : Nat} {top : Int} (h0 : r.place lens = 0) (ht : r.top' lens.length = top)
    (hown : w'.ownsRow base 119 3 v n ((r.spots top 0 lens).flatMap Spot.cells)) (hn : lens.length = n) (hx : Ext w w') : PlacePost r lens w (.returned (.tuple #[v, .int .i64 0])) w' := by
  have hl : (r.spots top 0 lens).length = n := by rw [spots_len, hn]
  obtain ⟨A, c, rfl, hc, _, hsl, _⟩ := own_sl (f := Spot.cells) (size := 3) (fun _ => rfl) hl hown
  exact ⟨A, n, c, by rw [h0], by rw [if_pos h0, ht]; exact hsl, hc, hx⟩
set_option maxRecDepth 100000 in
set_option maxHeartbeats 4000000 in
theorem Place_any (r : Reg) (A : Option Addr) (n c : Nat) (lens : List Int) (w : World) (hs : r.name.size ≤ 9223372036854775807) (hl : IntsAt w A n lens) (hn : n ≤ 9223372036854775807) :
    Calls Tryz.prog 81 #[r.val, .slice A n c] w (PlacePost r lens w) := by
  have hU := fun w => usable_any r w hs
  have hlen := hl.len
  cases hu : r.usable
  · have HP : Hid (r.place lens = 1) := by show r.place lens = 1; unfold Reg.place; rw [if_pos hu]
    have HU := Lib.hid hU
    have Hu := Lib.hid hu
    clear hU hu hlen hl
    obtain ⟨nm, top, hgt, lft, wid, al, bot⟩ := r
    unfold Reg.val at HU ⊢
    dsimp only at HU ⊢
    go_enter Tryz.func81, Tryz.ntmps81
    go_wp2_with fail
    refine (HU.out _).mono ?_
    rintro e w1 ⟨rfl, hx1⟩
    rw [Hu.out]
    go_wp2_with fail
    go_ret2
    exact placePost_err HP.out (by decide) rfl (((Ext.refl w).alloc _).trans hx1)
  · have hb := usable_bounds hu
    obtain ⟨⟨ht0, ht1⟩, ⟨hh0, hh1⟩, ⟨hl0, hl1⟩, ⟨hw0, hw1⟩⟩ := hb
    by_cases hgt9 : r.height < n
    · have HP : Hid (r.place lens = 9) := by show r.place lens = 9; unfold Reg.place; rw [if_neg (by rw [hu]; simp), if_pos (by rw [hlen]; exact hgt9)]
      have HU := Lib.hid hU
      have Hu := Lib.hid hu
      clear hU hu hlen hl
      obtain ⟨nm, top, hgt, lft, wid, al, bot⟩ := r
      unfold Reg.val at HU ⊢
      dsimp only at *
      go_enter Tryz.func81, Tryz.ntmps81
      go_wp2_with fail
      refine (HU.out _).mono ?_
      rintro e w1 ⟨rfl, hx1⟩
      rw [Hu.out]
      have hc := hx1.bcell.1 w.heap.size
      simp at hc
      go_wp2_with fail
      go_ret2
      exact placePost_err HP.out (by decide) rfl (((Ext.refl w).alloc _).trans hx1)
    · have hnh : (n : Int) ≤ r.height := by omega
      have hn15 : n ≤ 15 := by omega
      have HP : Hid (r.place lens = r.lensErr lens) := by show r.place lens = _; unfold Reg.place; rw [if_neg (by rw [hu]; simp), if_neg (by rw [hlen]; omega)]
      have HLn := Lib.hid hlen
      have HL := Lib.hid hl
      have HU := Lib.hid hU
      have Hu := Lib.hid hu
      clear hU hu hlen hl hgt9
      obtain ⟨i0, hi0, hz0, hz1, hz2⟩ := info_parts info_spot
      obtain ⟨nm, top, hgt, lft, wid, al, bot⟩ := r
      unfold Reg.val at HU ⊢
      dsimp only at *
      cases bot
      · go_enter Tryz.func81, Tryz.ntmps81
        go_wp2_with fail
        refine (HU.out _).mono ?_
        rintro e w1 ⟨rfl, hx1⟩
        rw [Hu.out]
        have hc := hx1.bcell.1 w.heap.size
        simp at hc
        go_wp2_with fail
        clear hc
        go_loopw [7, 34] (fun v i wr => PlaceRelI w #[.string nm, .int .i64 top, .int .i64 hgt, .int .i64 lft, .int .i64 wid, .int .u8 al, .bool false] ⟨nm, top, hgt, lft, wid, al, false⟩ top n lens v i wr) (fun _ i _ => n - (intOf i).toNat)
        case atStart => exact ⟨0, Nat.zero_le _, rfl, hx1, rfl, ⟨by simp [Reg.spots], .inl ⟨rfl, rfl⟩⟩⟩
        case round =>
          obtain ⟨k, hk, rfl, hx, hp, hown⟩ := hrel
          have HPr := Lib.hid hp
          clear hp
          have hB := Lib.hid (Blk.ext (Blk.new w _ _) hx)
          have hxw : Ext w wr := ((Ext.refl w).alloc _).trans hx
          have hc := fun o => hB.out.cell o
          have hsz : w.heap.size < wr.heap.size := hB.out.lt
          have hne : w.heap.size ≠ wr.heap.size := by omega
          by_cases hlt : k < n
          · obtain ⟨b, off, x, rfl, hxx, hcell⟩ := (HL.out.ext hxw).cell hlt
            have HX := Lib.hid hxx
            have HE := Lib.hid (lensErr_drop ⟨nm, top, hgt, lft, wid, al, false⟩ lens k x hxx)
            have HT := Lib.hid (take_snoc' lens k x hxx)
            have hkl : Hid ((lens.take k).length = k) := by show (lens.take k).length = k; rw [List.length_take, HLn.out]; omega
            clear hxx
            by_cases hneg : x < 0
            · go_wp2_with fail
              go_ret2
              exact placePost_err (k := 2) (by rw [HP.out, HPr.out, HE.out, if_pos (by omega)]) (by decide) rfl hxw
            · by_cases hwide : wid < x
              · go_wp2_with fail
                go_ret2
                exact placePost_err (k := 11) (by rw [HP.out, HPr.out, HE.out, if_neg (by omega), if_pos (by omega)]) (by decide) rfl hxw
              · have HS := Lib.hid (spots_snoc ⟨nm, top, hgt, lft, wid, al, false⟩ top (lens.take k) 0 x)
                have hE2 : Hid (Reg.lensErr ⟨nm, top, hgt, lft, wid, al, false⟩ lens = Reg.lensErr ⟨nm, top, hgt, lft, wid, al, false⟩ (lens.drop (k + 1))) := by
                  show _ = _
                  rw [HPr.out, HE.out, if_neg (by omega), if_neg (by omega)]
                by_cases ha3 : (al == 3) = true
                · have hal : al = 3 := by simpa using ha3
                  have HSp : Hid (Reg.spot ⟨nm, top, hgt, lft, wid, al, false⟩ top (0 + (lens.take k).length) x = ⟨top + k, lft + (wid - x), x⟩) := by
                    show _ = _
                    rw [hkl.out]; unfold Reg.spot; simp [hal]
                  clear hal
                  go_wp2_with (at_builtin; refine wpList_append1 rfl (.tmp 75) (.tmp 77) 115 rfl info_spot Tryz.underlying115 rfl (by decide) ((hown.alloc _).alloc _) (by exact rfl) (wr.heap.size + 1) _ (by exact rfl) (by exact Blk.new' (by simp)) (by exact rfl) (by simp [Value.oneCell']) (by omega) (by simp [maxLen]; omega) (by simp; omega) ?_; intro v' w' hown' hgr)
                  refine ⟨⟨k + 1, by omega, by go_num, ((hx.alloc _).alloc _).grown hgr (fun q hq => by have := own_lt hown q hq; simpa using this), hE2.out, ?_⟩, by simp [intOf]; omega⟩
                  rw [HT.out, HS.out, List.flatMap_append, HSp.out]
                  exact hown'
                · have ha3' : (al == 3) = false := by simpa using ha3
                  clear ha3
                  have hn3 : ¬ al = 3 := by simpa using ha3'
                  by_cases ha2 : (al == 2) = true
                  · have hal : al = 2 := by simpa using ha2
                    have HSp : Hid (Reg.spot ⟨nm, top, hgt, lft, wid, al, false⟩ top (0 + (lens.take k).length) x = ⟨top + k, lft + (wid - x) / 2, x⟩) := by
                      show _ = _
                      rw [hkl.out]; unfold Reg.spot; simp [hal]
                    clear hal hn3
                    go_wp2_with (at_builtin; refine wpList_append1 rfl (.tmp 75) (.tmp 77) 115 rfl info_spot Tryz.underlying115 rfl (by decide) ((hown.alloc _).alloc _) (by exact rfl) (wr.heap.size + 1) _ (by exact rfl) (by exact Blk.new' (by simp)) (by exact rfl) (by simp [Value.oneCell']) (by omega) (by simp [maxLen]; omega) (by simp; omega) ?_; intro v' w' hown' hgr)
                    refine ⟨⟨k + 1, by omega, by go_num, ((hx.alloc _).alloc _).grown hgr (fun q hq => by have := own_lt hown q hq; simpa using this), hE2.out, ?_⟩, by simp [intOf]; omega⟩
                    rw [HT.out, HS.out, List.flatMap_append, HSp.out]
                    exact hown'
                  · have ha2' : (al == 2) = false := by simpa using ha2
                    clear ha2
                    have hn2 : ¬ al = 2 := by simpa using ha2'
                    have HSp : Hid (Reg.spot ⟨nm, top, hgt, lft, wid, al, false⟩ top (0 + (lens.take k).length) x = ⟨top + k, lft, x⟩) := by
                      show _ = _
                      rw [hkl.out]; unfold Reg.spot; simp [hn3, hn2]
                    clear hn2 hn3
                    go_wp2_with (at_builtin; refine wpList_append1 rfl (.tmp 75) (.tmp 77) 115 rfl info_spot Tryz.underlying115 rfl (by decide) ((hown.alloc _).alloc _) (by exact rfl) (wr.heap.size + 1) _ (by exact rfl) (by exact Blk.new' (by simp)) (by exact rfl) (by simp [Value.oneCell']) (by omega) (by simp [maxLen]; omega) (by simp; omega) ?_; intro v' w' hown' hgr)
                    refine ⟨⟨k + 1, by omega, by go_num, ((hx.alloc _).alloc _).grown hgr (fun q hq => by have := own_lt hown q hq; simpa using this), hE2.out, ?_⟩, by simp [intOf]; omega⟩
                    rw [HT.out, HS.out, List.flatMap_append, HSp.out]
                    exact hown'
          · have hkn : k = n := by omega
            subst hkn
            have HD : Hid (lens.drop k = []) := List.drop_eq_nil_of_le (by rw [HLn.out]; omega)
            have HTk : Hid (lens.take k = lens) := List.take_of_length_le (by rw [HLn.out]; omega)
            have HO := Lib.hid hown
            clear hown
            go_wp2_with fail
            go_ret2
            exact placePost_ok (by rw [HP.out, HPr.out, HD.out]; rfl) (by rw [HLn.out]; rfl) (HTk.out ▸ HO.out) (by rw [HLn.out]) hxw
      · go_enter Tryz.func81, Tryz.ntmps81
        go_wp2_with fail
        refine (HU.out _).mono ?_
        rintro e w1 ⟨rfl, hx1⟩
        rw [Hu.out]
        have hc := hx1.bcell.1 w.heap.size
        simp at hc
        go_wp2_with fail
        clear hc
        go_loopw [7, 34] (fun v i wr => PlaceRelI w #[.string nm, .int .i64 top, .int .i64 hgt, .int .i64 lft, .int .i64 wid, .int .u8 al, .bool true] ⟨nm, top, hgt, lft, wid, al, true⟩ (top + (hgt - n)) n lens v i wr) (fun _ i _ => n - (intOf i).toNat)
        case atStart => exact ⟨0, Nat.zero_le _, rfl, hx1, rfl, ⟨by simp [Reg.spots], .inl ⟨rfl, rfl⟩⟩⟩
        case round =>
          obtain ⟨k, hk, rfl, hx, hp, hown⟩ := hrel
          have HPr := Lib.hid hp
          clear hp
          have hB := Lib.hid (Blk.ext (Blk.new w _ _) hx)
          have hxw : Ext w wr := ((Ext.refl w).alloc _).trans hx
          have hc := fun o => hB.out.cell o
          have hsz : w.heap.size < wr.heap.size := hB.out.lt
          have hne : w.heap.size ≠ wr.heap.size := by omega
          by_cases hlt : k < n
          · obtain ⟨b, off, x, rfl, hxx, hcell⟩ := (HL.out.ext hxw).cell hlt
            have HX := Lib.hid hxx
            have HE := Lib.hid (lensErr_drop ⟨nm, top, hgt, lft, wid, al, true⟩ lens k x hxx)
            have HT := Lib.hid (take_snoc' lens k x hxx)
            have hkl : Hid ((lens.take k).length = k) := by show (lens.take k).length = k; rw [List.length_take, HLn.out]; omega
            clear hxx
            by_cases hneg : x < 0
            · go_wp2_with fail
              go_ret2
              exact placePost_err (k := 2) (by rw [HP.out, HPr.out, HE.out, if_pos (by omega)]) (by decide) rfl hxw
            · by_cases hwide : wid < x
              · go_wp2_with fail
                go_ret2
                exact placePost_err (k := 11) (by rw [HP.out, HPr.out, HE.out, if_neg (by omega), if_pos (by omega)]) (by decide) rfl hxw
              · have HS := Lib.hid (spots_snoc ⟨nm, top, hgt, lft, wid, al, true⟩ (top + (hgt - n)) (lens.take k) 0 x)
                have hE2 : Hid (Reg.lensErr ⟨nm, top, hgt, lft, wid, al, true⟩ lens = Reg.lensErr ⟨nm, top, hgt, lft, wid, al, true⟩ (lens.drop (k + 1))) := by
                  show _ = _
                  rw [HPr.out, HE.out, if_neg (by omega), if_neg (by omega)]
                by_cases ha3 : (al == 3) = true
                · have hal : al = 3 := by simpa using ha3
                  have HSp : Hid (Reg.spot ⟨nm, top, hgt, lft, wid, al, true⟩ (top + (hgt - n)) (0 + (lens.take k).length) x = ⟨top + (hgt - n) + k, lft + (wid - x), x⟩) := by
                    show _ = _
                    rw [hkl.out]; unfold Reg.spot; simp [hal]
                  clear hal
                  go_wp2_with (at_builtin; refine wpList_append1 rfl (.tmp 75) (.tmp 77) 115 rfl info_spot Tryz.underlying115 rfl (by decide) ((hown.alloc _).alloc _) (by exact rfl) (wr.heap.size + 1) _ (by exact rfl) (by exact Blk.new' (by simp)) (by exact rfl) (by simp [Value.oneCell']) (by omega) (by simp [maxLen]; omega) (by simp; omega) ?_; intro v' w' hown' hgr)
                  refine ⟨⟨k + 1, by omega, by go_num, ((hx.alloc _).alloc _).grown hgr (fun q hq => by have := own_lt hown q hq; simpa using this), hE2.out, ?_⟩, by simp [intOf]; omega⟩
                  rw [HT.out, HS.out, List.flatMap_append, HSp.out]
                  exact hown'
                · have ha3' : (al == 3) = false := by simpa using ha3
                  clear ha3
                  have hn3 : ¬ al = 3 := by simpa using ha3'
                  by_cases ha2 : (al == 2) = true
                  · have hal : al = 2 := by simpa using ha2
                    have HSp : Hid (Reg.spot ⟨nm, top, hgt, lft, wid, al, true⟩ (top + (hgt - n)) (0 + (lens.take k).length) x = ⟨top + (hgt - n) + k, lft + (wid - x) / 2, x⟩) := by
                      show _ = _
                      rw [hkl.out]; unfold Reg.spot; simp [hal]
                    clear hal hn3
                    go_wp2_with (at_builtin; refine wpList_append1 rfl (.tmp 75) (.tmp 77) 115 rfl info_spot Tryz.underlying115 rfl (by decide) ((hown.alloc _).alloc _) (by exact rfl) (wr.heap.size + 1) _ (by exact rfl) (by exact Blk.new' (by simp)) (by exact rfl) (by simp [Value.oneCell']) (by omega) (by simp [maxLen]; omega) (by simp; omega) ?_; intro v' w' hown' hgr)
                    refine ⟨⟨k + 1, by omega, by go_num, ((hx.alloc _).alloc _).grown hgr (fun q hq => by have := own_lt hown q hq; simpa using this), hE2.out, ?_⟩, by simp [intOf]; omega⟩
                    rw [HT.out, HS.out, List.flatMap_append, HSp.out]
                    exact hown'
                  · have ha2' : (al == 2) = false := by simpa using ha2
                    clear ha2
                    have hn2 : ¬ al = 2 := by simpa using ha2'
                    have HSp : Hid (Reg.spot ⟨nm, top, hgt, lft, wid, al, true⟩ (top + (hgt - n)) (0 + (lens.take k).length) x = ⟨top + (hgt - n) + k, lft, x⟩) := by
                      show _ = _
                      rw [hkl.out]; unfold Reg.spot; simp [hn3, hn2]
                    clear hn2 hn3
                    go_wp2_with (at_builtin; refine wpList_append1 rfl (.tmp 75) (.tmp 77) 115 rfl info_spot Tryz.underlying115 rfl (by decide) ((hown.alloc _).alloc _) (by exact rfl) (wr.heap.size + 1) _ (by exact rfl) (by exact Blk.new' (by simp)) (by exact rfl) (by simp [Value.oneCell']) (by omega) (by simp [maxLen]; omega) (by simp; omega) ?_; intro v' w' hown' hgr)
                    refine ⟨⟨k + 1, by omega, by go_num, ((hx.alloc _).alloc _).grown hgr (fun q hq => by have := own_lt hown q hq; simpa using this), hE2.out, ?_⟩, by simp [intOf]; omega⟩
                    rw [HT.out, HS.out, List.flatMap_append, HSp.out]
                    exact hown'
          · have hkn : k = n := by omega
            subst hkn
            have HD : Hid (lens.drop k = []) := List.drop_eq_nil_of_le (by rw [HLn.out]; omega)
            have HTk : Hid (lens.take k = lens) := List.take_of_length_le (by rw [HLn.out]; omega)
            have HO := Lib.hid hown
            clear hown
            go_wp2_with fail
            go_ret2
            exact placePost_ok (by rw [HP.out, HPr.out, HD.out]; rfl) (by rw [HLn.out]; rfl) (HTk.out ▸ HO.out) (by rw [HLn.out]) hxw
end Go.Proofs.YtajbhfmdmajpmaaGreatDoor

/-! Find -/
namespace Go.Proofs.YtajbhfmdmajpmaaGreatDoor
set_option linter.unusedVariables false
set_option linter.unusedSimpArgs false
open Go.RowKit
def RegsAt (w : World) (A : Option Addr) (n : Nat) (l : List Reg) : Prop := Sl w 7 RegC A n l
theorem RegsAt.ext {w w1 : World} {A : Option Addr} {n : Nat} {l : List Reg} (h : RegsAt w A n l) (k : Ext w w1) : RegsAt w1 A n l := Sl.ext RegC.stays h k
def findR (l : List Reg) (nm : ByteArray) : Option Reg := if nm.toList = [] then some Reg.default else l.find? (fun r => r.name.toList == nm.toList)
def regZero : Array Value := #[.string ⟨#[]⟩, .int .i64 0, .int .i64 0, .int .i64 0, .int .i64 0, .int .u8 0, .bool false]
def FindRel (w : World) (A : Option Addr) (n : Nat) (l : List Reg) (nm : ByteArray) (i : Value) (wr : World) : Prop :=
  ∃ k : Nat, k ≤ n ∧ i = .int .i64 k ∧ Ext (w.alloc (.cells regZero 125)) wr ∧ l.find? (fun r => r.name.toList == nm.toList) = (l.drop k).find? (fun r => r.name.toList == nm.toList)
theorem info_reg : (Tryz.prog.info? 125).map (·.size) = some 7 := by kernel_rfl
theorem find_ret {w' : World} {g : Nat} {r : Reg} {b : Bool} {tmps : Array Value} (hB : Blk w' g 125 #[.string r.name, .int .i64 r.top, .int .i64 r.height, .int .i64 r.left, .int .i64 r.width, .int .u8 r.align, .bool r.bottom])
    (h4 : tmps.getD 4 undef = .pointer (some ⟨g, 0, none⟩)) (h5 : tmps.getD 5 undef = .bool b) : (results Tryz.f76 tmps).run Tryz.prog w' = .ok (.tuple #[r.val, .bool b]) w' := by
  rw [results_B_tmp (P := Tryz.prog) Tryz.results76 h4 hB Tryz.underlying125 rfl info_reg, h5]
  rfl
set_option maxHeartbeats 1000000 in
theorem Find_any (A : Option Addr) (n c : Nat) (l : List Reg) (nm : ByteArray) (w : World) (hl : RegsAt w A n l) (hn : n ≤ 9223372036854775807) :
    Calls Tryz.prog 76 #[.slice A n c, .string nm] w fun e w' => e = .returned (.tuple #[((findR l nm).getD Reg.zero).val, .bool (findR l nm).isSome]) ∧ Ext w w' := by
  by_cases h0 : nm.toList = []
  · have HF : Hid (findR l nm = some Reg.default) := by show findR l nm = _; unfold findR; rw [if_pos h0]
    have h0' : nm.toList.isEmpty = true := by rw [h0]; rfl
    clear h0
    go_enter Tryz.func76, Tryz.ntmps76
    go_wp2_with fail
    refine (Default_any _).mono ?_
    rintro e w1 ⟨rfl, hx1⟩
    unfold Reg.val Reg.default
    dsimp only
    have hB := Lib.hid (Blk.ext (Blk.new w _ _) hx1)
    go_wp2_with (refine wpList_storeB rfl 125 (.tmp 4) (.tmp 10) rfl w.heap.size 125 _ _ (by exact rfl) (by exact rfl) hB.out (by exact rfl) (by exact info_reg) (by simp [Value.oneCell']) ?_)
    refine bodyPost_ret (v := .tuple #[Reg.default.val, .bool true]) ?_ rfl ⟨?_, ?_⟩
    · exact find_ret (r := Reg.default) (hB.out.put _) rfl rfl
    · rw [HF.out]; rfl
    · exact (((Ext.refl w).alloc _).trans hx1).put (Nat.le_refl _) _ _
  · have HF : Hid (findR l nm = l.find? (fun r => r.name.toList == nm.toList)) := by show findR l nm = _; unfold findR; rw [if_neg h0]
    have h0' : nm.toList.isEmpty = false := by cases h : nm.toList with
      | nil => exact absurd h h0
      | cons a b => rfl
    clear h0
    have HL := Lib.hid hl
    clear hl
    go_enter Tryz.func76, Tryz.ntmps76
    go_wp2_with fail
    go_loopw [13] (fun i wr => FindRel w A n l nm i wr) (fun i _ => n - (intOf i).toNat)
    case atStart => exact ⟨0, Nat.zero_le _, rfl, Ext.refl _, rfl⟩
    case round =>
      obtain ⟨k, hk, rfl, hx, hp⟩ := hrel
      have HP := Lib.hid hp
      clear hp
      have hB := Lib.hid (Blk.ext (Blk.new w _ _) hx)
      have hxw : Ext w wr := ((Ext.refl w).alloc _).trans hx
      by_cases hlt : k < n
      · obtain ⟨b, off, r, rfl, hr, hC⟩ := (HL.out.ext hxw).at_ hlt
        have HR := Lib.hid hr
        clear hr
        obtain ⟨c0, c1, c2, c3, c4, c5, c6⟩ := hC
        have hdrop : Hid (l.drop k = r :: l.drop (k + 1)) := by
          show l.drop k = _
          have hkl := (List.getElem?_eq_some_iff.1 HR.out).1
          rw [List.drop_eq_getElem_cons hkl]
          congr 1
          exact (List.getElem?_eq_some_iff.1 HR.out).2
        by_cases hq : (r.name.toList == nm.toList) = true
        · go_wp2_with (refine wpList_storeB rfl 125 (.tmp 4) (.tmp 21) rfl w.heap.size 125 _ _ (by exact rfl) (by exact rfl) (hB.out.alloc _) (by exact rfl) (by exact info_reg) (by simp [Value.oneCell']) ?_)
          refine bodyPost_ret (v := .tuple #[r.val, .bool true]) ?_ rfl ⟨?_, ?_⟩
          · exact find_ret (r := r) ((hB.out.alloc _).put _) rfl rfl
          · rw [HF.out, HP.out, hdrop.out, List.find?_cons, hq]; rfl
          · exact (hxw.alloc _).put (Nat.le_refl _) _ _
        · have hq' : (r.name.toList == nm.toList) = false := by simpa using hq
          clear hq
          go_wp2_with fail
          refine ⟨⟨k + 1, by omega, by go_num, hx.alloc _, ?_⟩, by simp [intOf]; omega⟩
          rw [HP.out, hdrop.out, List.find?_cons, hq']
      · have hend : Hid (l.drop k = []) := List.drop_eq_nil_of_le (by rw [HL.out.len]; omega)
        go_wp2_with (refine wpList_storeB rfl 125 (.tmp 4) (.tmp 23) rfl w.heap.size 125 _ _ (by exact rfl) (by exact rfl) hB.out (by exact rfl) (by exact info_reg) (by simp [Value.oneCell']) ?_)
        refine bodyPost_ret (v := .tuple #[Reg.zero.val, .bool false]) ?_ rfl ⟨?_, ?_⟩
        · exact find_ret (r := Reg.zero) (hB.out.put _) rfl rfl
        · rw [HF.out, HP.out, hend.out]; rfl
        · exact hxw.put (Nat.le_refl _) _ _
end Go.Proofs.YtajbhfmdmajpmaaGreatDoor

/-! Event -/
namespace Go.Proofs.YtajbhfmdmajpmaaGreatDoor
set_option linter.unusedVariables false
set_option linter.unusedSimpArgs false
open Go.RowKit
/-- an event -/
structure Ev where
  id : Int
  inn : Int
  out : Int
  region : ByteArray
  kind : Int
  speaker : ByteArray
  rows : List Row
  deriving DecidableEq
/-- the cells of an event whose rows lie at A -/
def Ev.cells (e : Ev) (A : Option Addr) (n c : Nat) : Array Value := #[.int .i64 e.id, .int .i64 e.inn, .int .i64 e.out, .string e.region, .int .u8 e.kind, .string e.speaker, .slice A n c]
/-- its rows lie at A, within a capacity that Go bears -/
def EvAt (w : World) (e : Ev) (A : Option Addr) (n c : Nat) : Prop := RowsAt w A n e.rows ∧ n ≤ c ∧ n * 24 ≤ 140737488355328
theorem EvAt.ext {w w1 : World} {e : Ev} {A : Option Addr} {n c : Nat} (h : EvAt w e A n c) (k : Ext w w1) : EvAt w1 e A n c := ⟨h.1.ext k, h.2⟩
theorem EvAt.len {w : World} {e : Ev} {A : Option Addr} {n c : Nat} (h : EvAt w e A n c) : e.rows.length = n := h.1.len
/-- small texts: what the walks that reckon lengths ask -/
def RowSmall (r : Row) : Prop := rowBytes r < 4294967281 ∧ ∀ x ∈ r, x.text.size ≤ 4611686018427387904 ∧ x.ruby.size ≤ 4611686018427387904
def EvSmall (e : Ev) : Prop := e.region.size ≤ 9223372036854775807 ∧ e.speaker.size ≤ 9223372036854775807 ∧ ∀ r ∈ e.rows, RowSmall r
def LensPost (e : Ev) (w : World) (en : Ending) (w' : World) : Prop :=
  ∃ A n c, en = .returned (.slice A n c) ∧ IntsAt w' A n (e.rows.map rowLen) ∧ n ≤ c ∧ Ext w w'
def LensRel (w : World) (bx : Array Value) (n : Nat) (rows : List Row) (v i : Value) (wr : World) : Prop :=
  ∃ k : Nat, k ≤ n ∧ i = .int .i64 k ∧ Ext (w.alloc (.cells bx 53)) wr ∧ wr.ownsRow (w.heap.size + 1) 3 1 v k (((rows.take k).map rowLen).flatMap fun x => [Value.int .i64 x])
theorem info_int : (Tryz.prog.info? 3).map (fun i => (i.zero, i.size, i.bytes)) = some (some (.int .i64 0), 1, 8) := by kernel_rfl
theorem lensPost_ok {e : Ev} {w w' : World} {v : Value} {n base : Nat} (hn : e.rows.length = n) (hown : w'.ownsRow base 3 1 v n ((e.rows.map rowLen).flatMap fun x => [Value.int .i64 x])) (hx : Ext w w') : LensPost e w (.returned v) w' := by
  have hl : (e.rows.map rowLen).length = n := by rw [List.length_map, hn]
  obtain ⟨A, c, rfl, hc, _, hsl, _⟩ := own_sl (f := fun x : Int => [Value.int .i64 x]) (size := 1) (fun _ => rfl) hl hown
  exact ⟨A, n, c, rfl, hsl, hc, hx⟩
set_option maxRecDepth 100000 in
set_option maxHeartbeats 2000000 in
theorem lens_any (e : Ev) (A : Option Addr) (n c : Nat) (w : World) (hE : Env w) (he : EvAt w e A n c) (hb : ∀ r ∈ e.rows, RowSmall r) :
    Calls Tryz.prog 82 #[.agg (e.cells A n c)] w (LensPost e w) := by
  have hn24 : n * 24 ≤ 140737488355328 := by have := he.2; omega
  have HA := Lib.hid he.1
  have HLn := Lib.hid he.len
  have HEn := Lib.hid hE
  have HBd := Lib.hid hb
  clear he hE hb
  unfold Ev.cells
  go_enter Tryz.func82, Tryz.ntmps82
  go_wp2_with fail
  go_loopw [3, 9] (fun v i wr => LensRel w #[.int .i64 e.id, .int .i64 e.inn, .int .i64 e.out, .string e.region, .int .u8 e.kind, .string e.speaker, .slice A n c] n e.rows v i wr) (fun _ i _ => n - (intOf i).toNat)
  case atStart => exact ⟨0, Nat.zero_le _, rfl, Ext.refl _, ⟨rfl, .inl ⟨rfl, rfl⟩⟩⟩
  case round =>
    obtain ⟨k, hk, rfl, hx, hown⟩ := hrel
    have hxw : Ext w wr := ((Ext.refl w).alloc _).trans hx
    by_cases hlt : k < n
    · obtain ⟨b, off, r, rfl, hr, A', n', c', hcell, hnc, hc40, hruns⟩ := (HA.out.ext hxw).at_ hlt
      simp only [Nat.mul_one] at hcell
      have HR := Lib.hid hruns
      have hsm := HBd.out r (List.mem_of_getElem? hr)
      have HT := Lib.hid (take_snoc' e.rows k r hr)
      have hrb : rowBytes r < 4294967281 := hsm.1
      clear hr hruns hsm
      go_wp2_with fail
      refine (SLen_any A' n' c' r _ (HEn.out.ext (hxw.alloc _)) (HR.out.ext ((Ext.refl wr).alloc _)) (by omega) (by omega)).mono ?_
      rintro en w2 ⟨rfl, hx2⟩
      have HO2 := Lib.hid (own_ext (hown.alloc (.cells #[.slice A' n' c'] 107)) hx2)
      have hsz2 := hx.size
      have hsz3 := hx2.size
      simp only [World.size_alloc] at hsz2 hsz3
      go_wp2_with (at_builtin; refine wpList_append1 rfl (.tmp 13) (.tmp 16) 47 rfl info_int Tryz.underlying47 rfl (by decide) (HO2.out.alloc _) (by exact rfl) w2.heap.size _ (by exact rfl) (by exact Blk.new' rfl) (by exact rfl) (by simp [Value.oneCell']) (by omega) (by simp [maxLen]; omega) (by simp; omega) ?_; intro v' w3 hown3 hgr)
      refine ⟨⟨k + 1, by omega, by go_num, ((hx.alloc _).trans (hx2.alloc _)).grown hgr (fun q hq => by have := own_lt hown q hq; simpa using this), ?_⟩, by simp [intOf]; omega⟩
      rw [HT.out, List.map_append, List.flatMap_append]
      exact hown3
    · have hkn : k = n := by omega
      subst hkn
      have HT : Hid (e.rows.take k = e.rows) := List.take_of_length_le (by rw [HLn.out]; omega)
      have HO := Lib.hid hown
      clear hown
      go_wp2_with fail
      go_ret
      exact lensPost_ok HLn.out (by have := HO.out; rw [HT.out] at this; exact this) hxw
end Go.Proofs.YtajbhfmdmajpmaaGreatDoor

/-! Clone -/
namespace Go.Proofs.YtajbhfmdmajpmaaGreatDoor
set_option linter.unusedVariables false
set_option linter.unusedSimpArgs false
open Go.RowKit
/-- an address from block L on, in a row of elements of type T -/
def Fresh (w : World) (T : TypeId) (L : Nat) (A : Option Addr) : Prop := ∀ ad, A = some ad → L ≤ ad.block ∧ Typed w T ad.block
theorem Fresh.le {w : World} {T : TypeId} {L L' : Nat} {A : Option Addr} (h : Fresh w T L A) (hl : L' ≤ L) : Fresh w T L' A := fun ad e => ⟨Nat.le_trans hl (h ad e).1, (h ad e).2⟩
theorem Fresh.ext {w w1 : World} {T : TypeId} {L : Nat} {A : Option Addr} (h : Fresh w T L A) (k : Ext w w1) : Fresh w1 T L A := fun ad e => ⟨(h ad e).1, (h ad e).2.ext k⟩
theorem Fresh.setCell {w : World} {T : TypeId} {L : Nat} {A : Option Addr} (h : Fresh w T L A) (p : Addr) (u : Value) : Fresh (w.setCell p u) T L A := fun ad e => ⟨(h ad e).1, (h ad e).2.setCell p u⟩
theorem Fresh.grown {w w1 : World} {T T' : TypeId} {L : Nat} {A : Option Addr} {row : Option Nat} (h : Fresh w T L A) (hg : w.grownBy w1 row) (hr : ∀ q, row = some q → Typed w T' q) (hne : T ≠ T') : Fresh w1 T L A := fun ad e => ⟨(h ad e).1, (h ad e).2.grown hg hr hne⟩
theorem Fresh.put {w : World} {T t : TypeId} {L g : Nat} {A : Option Addr} {cs : Array Value} (h : Fresh w T L A) (hB : Blk w g t cs) (cs' : Array Value) (hne : T ≠ t) : Fresh (putB w g t cs') T L A := fun ad e => ⟨(h ad e).1, (h ad e).2.put hB cs' hne⟩
theorem Fresh.of_own {w : World} {base : Nat} {e : TypeId} {size n m c : Nat} {A : Option Addr} {xs : List Value} (h : w.ownsRow base e size (.slice A m c) n xs) : Fresh w e base A := fun ad hA => by
  subst hA
  exact ⟨own_lt h _ rfl, own_typed h _ rfl⟩
def Run.cells (r : Run) : List Value := [.string r.text, .int .u8 r.color, .bool r.italic, .bool r.under, .string r.ruby]
theorem runC_cells {w : World} {b o : Nat} {r : Run} (h : RunC w b o r) : Cells Run.cells w b o r := by
  obtain ⟨h0, h1, h2, h3, h4⟩ := h
  intro j u hu
  match j, hu with
  | 0, hu => simp [Run.cells] at hu; subst hu; exact h0
  | 1, hu => simp [Run.cells] at hu; subst hu; exact h1
  | 2, hu => simp [Run.cells] at hu; subst hu; exact h2
  | 3, hu => simp [Run.cells] at hu; subst hu; exact h3
  | 4, hu => simp [Run.cells] at hu; subst hu; exact h4
  | j + 5, hu => simp [Run.cells] at hu
theorem RunsAt.cells {w : World} {A : Option Addr} {n : Nat} {l : Row} (h : RunsAt w A n l) : Sl w 5 (Cells Run.cells) A n l := Sl.change h fun _ _ _ => runC_cells
def CloneRunsPost (l : Row) (n : Nat) (w : World) (e : Ending) (w' : World) : Prop :=
  ∃ A c, e = .returned (.slice A n c) ∧ n ≤ c ∧ RunsAt w' A n l ∧ Fresh w' 104 w.heap.size A ∧ Ext w w'
/-- the header of a slice -/
abbrev Hd := Option Addr × Nat × Nat
def Hd.val (h : Hd) : Value := .slice h.1 h.2.1 h.2.2
def Good (w : World) (h : Hd) (r : Row) : Prop := h.2.1 ≤ h.2.2 ∧ h.2.1 * 40 ≤ 140737488355328 ∧ RunsAt w h.1 h.2.1 r
theorem Good.ext {w w1 : World} {h : Hd} {r : Row} (g : Good w h r) (k : Ext w w1) : Good w1 h r := ⟨g.1, g.2.1, g.2.2.ext k⟩
def Goods (w : World) (hs : List Hd) (l : List Row) : Prop := ∀ (i : Nat) (h : Hd) (r : Row), hs[i]? = some h → l[i]? = some r → Good w h r
def HdsAt (w : World) (A : Option Addr) (n : Nat) (hs : List Hd) : Prop := Sl w 1 (Cells fun h => [Hd.val h]) A n hs
theorem rows_of_heads {w : World} {A : Option Addr} {n : Nat} {l : List Row} {hs : List Hd} (h : HdsAt w A n hs) (hl : l.length = n) (hg : Goods w hs l) : RowsAt w A n l := by
  refine ⟨hl, fun hn => ?_⟩
  obtain ⟨b, off, hA, hc⟩ := h.2 hn
  refine ⟨b, off, hA, fun i r hr => ?_⟩
  have hi : i < hs.length := by
    rw [h.len, ← hl]
    exact (List.getElem?_eq_some_iff.1 hr).1
  have hx : hs[i]? = some hs[i] := List.getElem?_eq_getElem hi
  have g := hg i _ r hx hr
  exact ⟨_, _, _, hc i _ hx 0 _ rfl, g.1, g.2.1, g.2.2⟩
def CloneHdsPost (hs : List Hd) (n : Nat) (w : World) (e : Ending) (w' : World) : Prop :=
  ∃ A c, e = .returned (.slice A n c) ∧ w'.ownsRow w.heap.size 107 1 (.slice A n c) n (hs.flatMap fun h => [Hd.val h]) ∧ Ext w w'
/-- rows whose memory lies from block L on -/
def RowsFresh (w : World) (L : Nat) (A : Option Addr) (n : Nat) (l : List Row) : Prop :=
  ∃ hs : List Hd, HdsAt w A n hs ∧ Goods w hs l ∧ l.length = n ∧ Fresh w 107 L A ∧ ∀ h ∈ hs, Fresh w 104 L h.1
theorem RowsFresh.rows {w : World} {L : Nat} {A : Option Addr} {n : Nat} {l : List Row} (h : RowsFresh w L A n l) : RowsAt w A n l := by
  obtain ⟨hs, h1, h2, h3, _⟩ := h
  exact rows_of_heads h1 h3 h2
theorem RowsFresh.ext {w w1 : World} {L : Nat} {A : Option Addr} {n : Nat} {l : List Row} (h : RowsFresh w L A n l) (k : Ext w w1) : RowsFresh w1 L A n l := by
  obtain ⟨hs, h1, h2, h3, h4, h5⟩ := h
  exact ⟨hs, Sl.ext (Cells.stays _) h1 k, fun i hd r a b => (h2 i hd r a b).ext k, h3, h4.ext k, fun x hx => (h5 x hx).ext k⟩
theorem RowsFresh.le {w : World} {L L' : Nat} {A : Option Addr} {n : Nat} {l : List Row} (h : RowsFresh w L A n l) (hl : L' ≤ L) : RowsFresh w L' A n l := by
  obtain ⟨hs, h1, h2, h3, h4, h5⟩ := h
  exact ⟨hs, h1, h2, h3, h4.le hl, fun x hx => (h5 x hx).le hl⟩
/-- a header's memory is not in block g -/
def Apart (g : Nat) (h : Hd) : Prop := 0 < h.2.1 → ∀ ad, h.1 = some ad → ad.block ≠ g
theorem Sl.keep {α : Type} {C : World → Nat → Nat → α → Prop} {w w1 : World} {size n : Nat} {A : Option Addr} {l : List α} (h : Sl w size C A n l) (hk : 0 < n → ∀ b off, A = some ⟨b, off, none⟩ → ∀ o x, C w b o x → C w1 b o x) : Sl w1 size C A n l :=
  ⟨h.1, fun hn => (h.2 hn).elim fun b hb => hb.elim fun off ho => ⟨b, off, ho.1, fun i x hx => hk hn b off ho.1 _ _ (ho.2 i x hx)⟩⟩
theorem RunC.set {w : World} {b o : Nat} {r : Run} (h : RunC w b o r) {p : Addr} (hp : b ≠ p.block) (u : Value) : RunC (w.setCell p u) b o r := by
  have key : ∀ q v, w.cell? ⟨b, q, none⟩ = some v → (w.setCell p u).cell? ⟨b, q, none⟩ = some v := fun q v hv => by
    rw [World.cell?_setCell_other w p ⟨b, q, none⟩ u (fun e => hp (by rw [e]))]; exact hv
  exact ⟨key _ _ h.1, key _ _ h.2.1, key _ _ h.2.2.1, key _ _ h.2.2.2.1, key _ _ h.2.2.2.2⟩
theorem Good.set {w : World} {h : Hd} {r : Row} (g : Good w h r) {p : Addr} (hp : Apart p.block h) (u : Value) : Good (w.setCell p u) h r :=
  ⟨g.1, g.2.1, Sl.keep g.2.2 fun hn b off hA o x hx => hx.set (hp hn _ hA) u⟩
/-- rows whose memory lies from block L on, in a block of their own -/
def RowsOwn (w : World) (L : Nat) (A : Option Addr) (n c : Nat) (l : List Row) : Prop :=
  ∃ hs : List Hd, w.ownsRow L 107 1 (.slice A n c) n (hs.flatMap fun h => [Hd.val h]) ∧ hs.length = n ∧ Goods w hs l ∧ l.length = n ∧ ∀ h ∈ hs, Fresh w 104 L h.1
theorem RowsOwn.fresh {w : World} {L : Nat} {A : Option Addr} {n c : Nat} {l : List Row} (h : RowsOwn w L A n c l) : RowsFresh w L A n l := by
  obtain ⟨hs, h1, h2, h3, h4, h5⟩ := h
  obtain ⟨A', c', hv, _, _, hsl, _⟩ := own_sl (f := fun h : Hd => [Hd.val h]) (size := 1) (fun _ => rfl) h2 h1
  injection hv with e1 e2 e3
  subst e1 e3
  exact ⟨hs, hsl, h3, h4, Fresh.of_own h1, h5⟩
theorem RowsOwn.ext {w w1 : World} {L : Nat} {A : Option Addr} {n c : Nat} {l : List Row} (h : RowsOwn w L A n c l) (k : Ext w w1) : RowsOwn w1 L A n c l := by
  obtain ⟨hs, h1, h2, h3, h4, h5⟩ := h
  exact ⟨hs, own_ext h1 k, h2, fun i hd r a b => (h3 i hd r a b).ext k, h4, fun x hx => (h5 x hx).ext k⟩
theorem own_le {w : World} {L L' : Nat} {e : TypeId} {size : Nat} {v : Value} {n : Nat} {xs : List Value} (h : w.ownsRow L e size v n xs) (hl : L' ≤ L) : w.ownsRow L' e size v n xs := by
  refine ⟨h.1, ?_⟩
  rcases h.2 with hn | ⟨g, cap, cur, rfl, hb, rest⟩
  · exact .inl hn
  · exact .inr ⟨g, cap, cur, rfl, Nat.le_trans hl hb, rest⟩
theorem RowsOwn.le {w : World} {L L' : Nat} {A : Option Addr} {n c : Nat} {l : List Row} (h : RowsOwn w L A n c l) (hl : L' ≤ L) : RowsOwn w L' A n c l := by
  obtain ⟨hs, h1, h2, h3, h4, h5⟩ := h
  exact ⟨hs, own_le h1 hl, h2, h3, h4, fun x hx => (h5 x hx).le hl⟩
def SOwnPost (rows : List Row) (n : Nat) (w : World) (e : Ending) (w' : World) : Prop :=
  ∃ A c, e = .returned (.slice A n c) ∧ n ≤ c ∧ RowsOwn w' w.heap.size A n c rows ∧ Ext w w'
def SCloneRel (w : World) (rows : List Row) (A : Option Addr) (n c : Nat) (i : Value) (wr : World) : Prop :=
  ∃ (k : Nat) (hs : List Hd), k ≤ n ∧ i = .int .i64 k ∧ hs.length = n ∧ wr.ownsRow w.heap.size 107 1 (.slice A n c) n (hs.flatMap fun h => [Hd.val h]) ∧ Ext w wr ∧ Goods wr hs rows ∧
    (∀ ad, A = some ad → ∀ h ∈ hs, Apart ad.block h) ∧ (∀ j h, j < k → hs[j]? = some h → Fresh wr 104 w.heap.size h.1)
def SClonePost (rows : List Row) (n : Nat) (w : World) (e : Ending) (w' : World) : Prop :=
  ∃ A c, e = .returned (.slice A n c) ∧ n ≤ c ∧ RowsFresh w' w.heap.size A n rows ∧ Ext w w'
end Go.Proofs.YtajbhfmdmajpmaaGreatDoor

/-! OpenE -/
namespace Go.Proofs.YtajbhfmdmajpmaaGreatDoor
set_option linter.unusedVariables false
set_option linter.unusedSimpArgs false
open Go.RowKit Go.ChangeShapes Go.WideShapes Go.ChangeAt
set_option maxRecDepth 100000
theorem cells_color : Tryz.prog.cellsOf 54 = 1 := by kernel_rfl
theorem cells_style : Tryz.prog.cellsOf 56 = 3 := by kernel_rfl
theorem cells_run : Tryz.prog.cellsOf 104 = 5 := by kernel_rfl
theorem cells_row : Tryz.prog.cellsOf 107 = 1 := by kernel_rfl
theorem cells_runs : Tryz.prog.cellsOf 105 = 1 := by kernel_rfl
theorem cells_rows : Tryz.prog.cellsOf 51 = 1 := by kernel_rfl
theorem cells_kind : Tryz.prog.cellsOf 50 = 1 := by kernel_rfl
theorem cells_event : Tryz.prog.cellsOf 53 = 7 := by kernel_rfl
theorem bytes_run : Tryz.prog.bytesOf 104 = 40 := by kernel_rfl
theorem bytes_row : Tryz.prog.bytesOf 107 = 24 := by kernel_rfl
/-- a run that came in -/
def Run.Fits (r : Run) : Prop := r.text.size ≤ 140737488351232 ∧ r.ruby.size ≤ 140737488351232 ∧ 0 ≤ r.color ∧ r.color ≤ 255
theorem open_style (W : World) : Opens Tryz.prog W 56 (fun cs (a : Int × Bool × Bool) => cs = [.int .u8 a.1, .bool a.2.1, .bool a.2.2] ∧ 0 ≤ a.1 ∧ a.1 ≤ 255) := by
  intro H enc fuel cs x h hw
  obtain ⟨hl, hf⟩ := Opens.fields Tryz.underlying56 h hw
  rw [cells_style] at hl
  obtain ⟨v0, v1, v2, rfl⟩ := list_3 hl
  obtain ⟨a0, h0, s0⟩ := hf 0 _ rfl (Opens.int Tryz.underlying54)
  obtain ⟨a1, h1⟩ := hf 1 _ rfl (Opens.bool Tryz.underlying4)
  obtain ⟨a2, h2⟩ := hf 2 _ rfl (Opens.bool Tryz.underlying4)
  simp [cells_color, cells_bool] at h0 h1 h2
  subst h0 h1 h2
  exact ⟨(a0, a1, a2), rfl, bounds_u8 s0⟩
/-- a row that came in -/
def RowFits (r : Row) : Prop := (∀ x ∈ r, x.Fits) ∧ r.length * 40 ≤ 140737488351232
/-- an event that came in -/
def Ev.Fits (e : Ev) : Prop := e.region.size ≤ 140737488351232 ∧ e.speaker.size ≤ 140737488351232 ∧ (0 ≤ e.kind ∧ e.kind ≤ 255) ∧ (-9223372036854775808 ≤ e.id ∧ e.id ≤ 9223372036854775807) ∧ (-9223372036854775808 ≤ e.inn ∧ e.inn ≤ 9223372036854775807) ∧ (-9223372036854775808 ≤ e.out ∧ e.out ≤ 9223372036854775807) ∧ (∀ r ∈ e.rows, RowFits r) ∧ e.rows.length * 24 ≤ 140737488351232
def wzero {H : Type} : DataW H := .agg [.lit (.int .i64 0), .agg [.lit (.int .i64 0), .lit (.int .i64 0)], .lit (.string []), .lit (.int .u8 0), .lit (.string []), .nil]
end Go.Proofs.YtajbhfmdmajpmaaGreatDoor

/-! EventB -/
namespace Go.Proofs.YtajbhfmdmajpmaaGreatDoor
set_option linter.unusedVariables false
set_option linter.unusedSimpArgs false
open Go.RowKit
def Ev.frames (e : Ev) : Int := if spansB e.inn e.out = true then e.out - e.inn else 0
def lenSum : Int → List Int → Int
  | s, [] => s
  | s, n :: l => if n < 0 then -1 else lenSum (s + n) l
/-- the number of characters of an event, with its line feeds -/
def Ev.len (e : Ev) : Int := lenSum (max ((e.rows.length : Int) - 1) 0) (e.rows.map rowLen)
def Ev.bytes (e : Ev) : Nat := (e.rows.map rowBytes).sum
theorem rowLen_le : ∀ l : Row, rowLen l ≤ rowBytes l
  | [] => by simp [rowLen, rowBytes]
  | r :: l => by
    have h1 := rowLen_le l
    have h2 := clen_le r.text
    rw [rowBytes_cons]
    unfold rowLen
    split
    · omega
    · split <;> omega
def sumNat (l : List Nat) : Nat := l.sum
theorem sum_take_le (l : List Row) (k : Nat) (r : Row) (h : l[k]? = some r) : ((l.take k).map rowBytes).sum + rowBytes r ≤ (l.map rowBytes).sum := by
  have e := List.take_append_drop k l
  have h1 : (l.map rowBytes).sum = ((l.take k).map rowBytes).sum + ((l.drop k).map rowBytes).sum := by
    conv => lhs; rw [← e]
    rw [List.map_append, List.sum_append]
  rw [h1, drop_at l k r h]
  simp
def ELenRel (n : Nat) (e : Ev) (v i : Value) : Prop :=
  ∃ (k : Nat) (s : Int), k ≤ n ∧ i = .int .i64 k ∧ v = .int .i64 s ∧ 0 ≤ s ∧ s ≤ n + ((e.rows.take k).map rowBytes).sum ∧ e.len = lenSum s ((e.rows.map rowLen).drop k)
set_option maxRecDepth 100000 in
set_option maxHeartbeats 2000000 in
theorem ELen_any (e : Ev) (A : Option Addr) (n c : Nat) (w : World) (hE : Env w) (he : EvAt w e A n c) (hb : ∀ r ∈ e.rows, RowSmall r) (hby : e.bytes ≤ 1099511627776) :
    Calls Tryz.prog 139 #[.agg (e.cells A n c)] w fun en w' => en = .returned (.int .i64 e.len) ∧ Ext w w' := by
  have hn24 : n * 24 ≤ 140737488355328 := by have := he.2; omega
  have HL := Lib.hid (fun w hE he => lens_any e A n c w hE he hb)
  have HA := Lib.hid he
  have HLn := Lib.hid he.len
  have HEn := Lib.hid hE
  clear he hE hb
  unfold Ev.cells at HL ⊢
  go_enter Tryz.func139, Tryz.ntmps139
  go_wp2_with fail
  refine (HL.out _ (HEn.out.ext ((Ext.refl w).alloc _)) (HA.out.ext ((Ext.refl w).alloc _))).mono ?_
  rintro en w1 ⟨A1, n1, c1, rfl, hints, hnc1, hx1⟩
  have hxw1 : Ext w w1 := ((Ext.refl w).alloc _).trans hx1
  obtain rfl : n = n1 := by rw [← HLn.out, ← hints.len, List.length_map]
  have HI := Lib.hid hints
  clear hints
  go_wp2_with fail
  go_loop [3, 14] (fun v i => ELenRel n e v i) (fun _ i => n - (intOf i).toNat)
  case atStart => exact ⟨0, _, Nat.zero_le _, rfl, rfl, by omega, by simp; omega, by unfold Ev.len; rw [HLn.out]; rfl⟩
  case round =>
    obtain ⟨k, s, hk, rfl, rfl, hs0, hs1, hp⟩ := hrel
    have HP := Lib.hid hp
    clear hp
    by_cases hlt : k < n
    · obtain ⟨b, off, x, rfl, hxx, hcell⟩ := HI.out.cell hlt
      have HD := Lib.hid (drop_at _ k x hxx)
      rw [List.getElem?_map] at hxx
      obtain ⟨r, hr, rfl⟩ := Option.map_eq_some_iff.1 hxx
      have h1 := sum_take_le e.rows k r hr
      have h2 := rowLen_le r
      have h3 : Hid (((e.rows.take (k + 1)).map rowBytes).sum = ((e.rows.take k).map rowBytes).sum + rowBytes r) := by
        show _ = _
        rw [take_snoc' e.rows k r hr, List.map_append, List.sum_append]
        simp
      have hby' : (e.rows.map rowBytes).sum ≤ 1099511627776 := hby
      have hs2 : s + rowLen r ≤ 4611686018427387904 := by omega
      have hs3 : s ≤ 4611686018427387904 := by omega
      clear hr hxx h1 hby'
      by_cases hneg : rowLen r < 0
      · go_wp2_with fail
        go_ret
        exact ⟨ret_int (by rw [HP.out, HD.out, lenSum, if_pos (by omega)]), hxw1⟩
      · go_wp2_with fail
        refine ⟨⟨k + 1, s + rowLen r, by omega, by go_num, rfl, by omega, ?_, ?_⟩, by simp [intOf]; omega⟩
        · rw [h3.out]; omega
        · rw [HP.out, HD.out, lenSum, if_neg (by omega)]
    · have HD : Hid ((e.rows.map rowLen).drop k = []) := List.drop_eq_nil_of_le (by rw [List.length_map, HLn.out]; omega)
      go_wp2_with fail
      go_ret
      exact ⟨ret_int (by rw [HP.out, HD.out]; rfl), hxw1⟩
/-- the text of an event -/
def Ev.text (e : Ev) : List UInt8 := Lib.join (e.rows.map rowText) [10]
def EPlainRel (w : World) (bx : Array Value) (n : Nat) (rows : List Row) (v i : Value) (wr : World) : Prop :=
  ∃ k : Nat, k ≤ n ∧ i = .int .i64 k ∧ Ext (w.alloc (.cells bx 53)) wr ∧ wr.ownsRow (w.heap.size + 1) 9 1 v k (((rows.take k).map textOf).flatMap fun x => [Value.string x])
end Go.Proofs.YtajbhfmdmajpmaaGreatDoor

/-! EventC -/
namespace Go.Proofs.YtajbhfmdmajpmaaGreatDoor
set_option linter.unusedVariables false
set_option linter.unusedSimpArgs false
open Go.RowKit
def RegsSmall (l : List Reg) : Prop := ∀ r ∈ l, r.name.size ≤ 9223372036854775807
theorem findR_small {l : List Reg} {nm : ByteArray} (h : RegsSmall l) : ((findR l nm).getD Reg.zero).name.size ≤ 9223372036854775807 := by
  unfold findR
  split
  · show ByteArray.empty.size ≤ _
    decide
  · cases hf : l.find? (fun r => r.name.toList == nm.toList) with
    | none => show ByteArray.empty.size ≤ _; decide
    | some r => exact h r (List.mem_of_find?_eq_some hf)
/-- the error of Spots -/
def Ev.spotsErr (e : Ev) (regs : List Reg) : Int :=
  match findR regs e.region with
  | none => 6
  | some r => if (e.rows.map rowLen).any (fun n => decide (n < 0)) = true then 10 else r.place (e.rows.map rowLen)
def Ev.spots (e : Ev) (regs : List Reg) : List Spot :=
  if e.spotsErr regs = 0 then ((findR regs e.region).getD Reg.zero).spots (((findR regs e.region).getD Reg.zero).top' e.rows.length) 0 (e.rows.map rowLen) else []
def SpotsPost (e : Ev) (regs : List Reg) (w : World) (en : Ending) (w' : World) : Prop :=
  ∃ A n c, en = .returned (.tuple #[.slice A n c, .int .i64 (e.spotsErr regs)]) ∧ SpotsAt w' A n (e.spots regs) ∧ n ≤ c ∧ Ext w w'
theorem spotsPost_err {e : Ev} {regs : List Reg} {w w' : World} {en : Ending} {k : Int} (hk : e.spotsErr regs = k) (h0 : k ≠ 0) (he : en = .returned (.tuple #[.slice none 0 0, .int .i64 k])) (hx : Ext w w') : SpotsPost e regs w en w' :=
  ⟨none, 0, 0, by rw [hk]; exact he, by unfold Ev.spots; rw [if_neg (by rw [hk]; exact h0)]; exact Sl.nil, Nat.le_refl _, hx⟩
def NegRel (n : Nat) (l : List Int) (i : Value) : Prop := ∃ k : Nat, k ≤ n ∧ i = .int .i64 k ∧ l.any (fun n => decide (n < 0)) = (l.drop k).any (fun n => decide (n < 0))
set_option maxRecDepth 100000 in
set_option maxHeartbeats 2000000 in
theorem Spots_any (e : Ev) (A : Option Addr) (n c : Nat) (A2 : Option Addr) (n2 c2 : Nat) (regs : List Reg) (w : World) (hE : Env w) (he : EvAt w e A n c) (hb : ∀ r ∈ e.rows, RowSmall r) (hr : RegsAt w A2 n2 regs) (hr2 : n2 ≤ 9223372036854775807) (hrs : RegsSmall regs) :
    Calls Tryz.prog 71 #[.agg (e.cells A n c), .slice A2 n2 c2] w (SpotsPost e regs w) := by
  have hn24 : n * 24 ≤ 140737488355328 := by have := he.2; omega
  have HL := Lib.hid (fun w hE he => lens_any e A n c w hE he hb)
  have HA := Lib.hid he
  have HLn := Lib.hid he.len
  have HEn := Lib.hid hE
  have HR := Lib.hid hr
  have hsm := findR_small (nm := e.region) hrs
  clear he hE hb hr
  unfold Ev.cells at HL ⊢
  have HPl := Lib.hid (fun A n c lens w hl hn => Place_any ((findR regs e.region).getD Reg.zero) A n c lens w hsm hl hn)
  go_enter Tryz.func71, Tryz.ntmps71
  go_wp2_with fail
  refine (Find_any A2 n2 c2 regs e.region _ (HR.out.ext ((Ext.refl w).alloc _)) hr2).mono ?_
  rintro en w1 ⟨rfl, hx1⟩
  have HB1 := Lib.hid (Blk.ext (Blk.new w _ _) hx1)
  have hxw1 : Ext w w1 := ((Ext.refl w).alloc _).trans hx1
  cases hf : findR regs e.region with
  | none =>
    have HF : Hid (e.spotsErr regs = 6) := by show _ = _; unfold Ev.spotsErr; rw [hf]
    clear HPl hsm hf
    simp only [Option.getD_none, Option.isSome_none]
    unfold Reg.val Reg.zero
    dsimp only
    go_wp2_with fail
    go_ret2
    exact spotsPost_err HF.out (by decide) rfl (hxw1.alloc _)
  | some r =>
    have HF : Hid (e.spotsErr regs = if (e.rows.map rowLen).any (fun n => decide (n < 0)) = true then 10 else r.place (e.rows.map rowLen)) := by show _ = _; unfold Ev.spotsErr; rw [hf]
    have HS : Hid (e.spots regs = if e.spotsErr regs = 0 then r.spots (r.top' e.rows.length) 0 (e.rows.map rowLen) else []) := by show _ = _; unfold Ev.spots; rw [hf]; rfl
    rw [hf] at HPl
    clear hsm hf
    simp only [Option.getD_some, Option.isSome_some] at HPl ⊢
    unfold Reg.val at HPl ⊢
    have hblt : w.heap.size < w1.heap.size := HB1.out.lt
    have hbne : w.heap.size ≠ w1.heap.size := by omega
    have hc1 := fun o => HB1.out.cell o
    go_wp2_with fail
    refine (HL.out _ (HEn.out.ext (hxw1.alloc _)) (HA.out.ext (hxw1.alloc _))).mono ?_
    rintro en w2 ⟨A1, n1, c1, rfl, hints, hnc1, hx2⟩
    have hxw2 : Ext w w2 := (hxw1.alloc _).trans hx2
    obtain rfl : n = n1 := by rw [← HLn.out, ← hints.len, List.length_map]
    have HI := Lib.hid hints
    have HB2 := Lib.hid (Blk.ext (Blk.new w1 _ _) hx2)
    clear hints hc1
    go_wp2_with fail
    go_loop [24] (fun i => NegRel n (e.rows.map rowLen) i) (fun i => n - (intOf i).toNat)
    case atStart => exact ⟨0, Nat.zero_le _, rfl, rfl⟩
    case round =>
      obtain ⟨k, hk, rfl, hp⟩ := hrel
      have HP := Lib.hid hp
      clear hp
      by_cases hlt : k < n
      · obtain ⟨b, off, x, rfl, hxx, hcell⟩ := HI.out.cell hlt
        have HD := Lib.hid (drop_at _ k x hxx)
        clear hxx
        by_cases hneg : x < 0
        · go_wp2_with fail
          go_ret2
          exact spotsPost_err (k := 10) (by rw [HF.out, HP.out, HD.out, List.any_cons, decide_eq_true (by omega)]; rfl) (by decide) rfl hxw2
        · go_wp2_with fail
          refine ⟨⟨k + 1, by omega, by go_num, ?_⟩, by simp [intOf]; omega⟩
          rw [HP.out, HD.out, List.any_cons, decide_eq_false (by omega), Bool.false_or]
      · have HD : Hid ((e.rows.map rowLen).drop k = []) := List.drop_eq_nil_of_le (by rw [List.length_map, HLn.out]; omega)
        have HF2 : Hid (e.spotsErr regs = r.place (e.rows.map rowLen)) := by show _ = _; rw [HF.out, HP.out, HD.out]; rfl
        have hc2 := fun o => HB2.out.cell o
        go_wp2_with fail
        refine (HPl.out _ _ _ _ _ HI.out (by omega)).mono ?_
        rintro en w3 ⟨A3, n3, c3, rfl, hsp, hnc3, hx3⟩
        go_wp2_with fail
        go_ret2
        refine ⟨A3, n3, c3, by rw [HF2.out]; rfl, ?_, hnc3, hxw2.trans hx3⟩
        rw [HS.out, HF2.out]
        rw [List.length_map] at hsp
        exact hsp
end Go.Proofs.YtajbhfmdmajpmaaGreatDoor
