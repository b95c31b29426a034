/- Laid together: The walk of the reference's Place. The walk of the reference's neat. The walks of the reference's rows: Valid, Len, Plain. The walk of the reference's check of a row. -/
import Derived.Test.YtagfedbdakmlgaaGreatDoorPk16
import Derived.Test.YtagfedbdakmlgaaGreatDoorPk03
import Derived.Test.YtagfedbdakmlgaaGreatDoorPk02
import Derived.Test.YtagfedbdakmlgaaGreatDoorPk14

/-! PlaceR -/
namespace Go.Proofs.YtagfedbdakmlgaaGreatDoor
set_option linter.unusedVariables false
set_option linter.unusedSimpArgs false
open Go.RowKit

set_option maxRecDepth 100000 in
set_option maxHeartbeats 4000000 in
theorem R10Place_any (r : Reg) (A : Option Addr) (n c : Nat) (lens : List Int) (w : World) (hs : r.name.size ≤ 9223372036854775807) (hl : IntsAt w A n lens) (hn : n ≤ 9223372036854775807) :
    Calls Tryz.prog 151 #[r.val, .slice A n c] w (PlacePost r lens w) := by
  have hU := fun w => R10usable_any r w hs
  have hlen := hl.len
  cases hu : r.usable
  · have HP : Hid (r.place lens = 1) := by show r.place lens = 1; unfold Reg.place; rw [if_pos hu]
    have HU := Lib.hid hU
    have Hu := Lib.hid hu
    clear hU hu hlen hl
    obtain ⟨nm, top, hgt, lft, wid, al, bot⟩ := r
    unfold Reg.val at HU ⊢
    dsimp only at HU ⊢
    go_enter Tryz.func151, Tryz.ntmps151
    go_wp2_with fail
    refine (HU.out _).mono ?_
    rintro e w1 ⟨rfl, hx1⟩
    rw [Hu.out]
    go_wp2_with fail
    go_ret2
    exact placePost_err HP.out (by decide) rfl (((Ext.refl w).alloc _).trans hx1)
  · have hb := usable_bounds hu
    obtain ⟨⟨ht0, ht1⟩, ⟨hh0, hh1⟩, ⟨hl0, hl1⟩, ⟨hw0, hw1⟩⟩ := hb
    by_cases hgt9 : r.height < n
    · have HP : Hid (r.place lens = 9) := by show r.place lens = 9; unfold Reg.place; rw [if_neg (by rw [hu]; simp), if_pos (by rw [hlen]; exact hgt9)]
      have HU := Lib.hid hU
      have Hu := Lib.hid hu
      clear hU hu hlen hl
      obtain ⟨nm, top, hgt, lft, wid, al, bot⟩ := r
      unfold Reg.val at HU ⊢
      dsimp only at *
      go_enter Tryz.func151, Tryz.ntmps151
      go_wp2_with fail
      refine (HU.out _).mono ?_
      rintro e w1 ⟨rfl, hx1⟩
      rw [Hu.out]
      have hc := hx1.bcell.1 w.heap.size
      simp at hc
      go_wp2_with fail
      go_ret2
      exact placePost_err HP.out (by decide) rfl (((Ext.refl w).alloc _).trans hx1)
    · have hnh : (n : Int) ≤ r.height := by omega
      have hn15 : n ≤ 15 := by omega
      have HP : Hid (r.place lens = r.lensErr lens) := by show r.place lens = _; unfold Reg.place; rw [if_neg (by rw [hu]; simp), if_neg (by rw [hlen]; omega)]
      have HLn := Lib.hid hlen
      have HL := Lib.hid hl
      have HU := Lib.hid hU
      have Hu := Lib.hid hu
      clear hU hu hlen hl hgt9
      obtain ⟨i0, hi0, hz0, hz1, hz2⟩ := info_parts info_spot
      obtain ⟨nm, top, hgt, lft, wid, al, bot⟩ := r
      unfold Reg.val at HU ⊢
      dsimp only at *
      cases bot
      · go_enter Tryz.func151, Tryz.ntmps151
        go_wp2_with fail
        refine (HU.out _).mono ?_
        rintro e w1 ⟨rfl, hx1⟩
        rw [Hu.out]
        have hc := hx1.bcell.1 w.heap.size
        simp at hc
        go_wp2_with fail
        clear hc
        go_loopw [6, 20] (fun v i wr => PlaceRelI w #[.string nm, .int .i64 top, .int .i64 hgt, .int .i64 lft, .int .i64 wid, .int .u8 al, .bool false] ⟨nm, top, hgt, lft, wid, al, false⟩ top n lens v i wr) (fun _ i _ => n - (intOf i).toNat)
        case atStart => exact ⟨0, Nat.zero_le _, rfl, hx1, rfl, ⟨by simp [Reg.spots], .inl ⟨rfl, rfl⟩⟩⟩
        case round =>
          obtain ⟨k, hk, rfl, hx, hp, hown⟩ := hrel
          have HPr := Lib.hid hp
          clear hp
          have hB := Lib.hid (Blk.ext (Blk.new w _ _) hx)
          have hxw : Ext w wr := ((Ext.refl w).alloc _).trans hx
          have hc := fun o => hB.out.cell o
          have hsz : w.heap.size < wr.heap.size := hB.out.lt
          have hne : w.heap.size ≠ wr.heap.size := by omega
          by_cases hlt : k < n
          · obtain ⟨b, off, x, rfl, hxx, hcell⟩ := (HL.out.ext hxw).cell hlt
            have HX := Lib.hid hxx
            have HE := Lib.hid (lensErr_drop ⟨nm, top, hgt, lft, wid, al, false⟩ lens k x hxx)
            have HT := Lib.hid (take_snoc' lens k x hxx)
            have hkl : Hid ((lens.take k).length = k) := by show (lens.take k).length = k; rw [List.length_take, HLn.out]; omega
            clear hxx
            by_cases hneg : x < 0
            · go_wp2_with fail
              go_ret2
              exact placePost_err (k := 2) (by rw [HP.out, HPr.out, HE.out, if_pos (by omega)]) (by decide) rfl hxw
            · by_cases hwide : wid < x
              · go_wp2_with fail
                go_ret2
                exact placePost_err (k := 11) (by rw [HP.out, HPr.out, HE.out, if_neg (by omega), if_pos (by omega)]) (by decide) rfl hxw
              · have HS := Lib.hid (spots_snoc ⟨nm, top, hgt, lft, wid, al, false⟩ top (lens.take k) 0 x)
                have hE2 : Hid (Reg.lensErr ⟨nm, top, hgt, lft, wid, al, false⟩ lens = Reg.lensErr ⟨nm, top, hgt, lft, wid, al, false⟩ (lens.drop (k + 1))) := by
                  show _ = _
                  rw [HPr.out, HE.out, if_neg (by omega), if_neg (by omega)]
                by_cases ha3 : (al == 3) = true
                · have hal : al = 3 := by simpa using ha3
                  have HSp : Hid (Reg.spot ⟨nm, top, hgt, lft, wid, al, false⟩ top (0 + (lens.take k).length) x = ⟨top + k, lft + (wid - x), x⟩) := by
                    show _ = _
                    rw [hkl.out]; unfold Reg.spot; simp [hal]
                  clear hal
                  go_wp2_with (at_builtin; refine wpList_append1 rfl (.tmp 73) (.tmp 75) 161 rfl info_spot Tryz.underlying161 rfl (by decide) ((hown.alloc _).alloc _) (by exact rfl) (wr.heap.size + 1) _ (by exact rfl) (by exact Blk.new' (by simp)) (by exact rfl) (by simp [Value.oneCell']) (by omega) (by simp [maxLen]; omega) (by simp; omega) ?_; intro v' w' hown' hgr)
                  refine ⟨⟨k + 1, by omega, by go_num, ((hx.alloc _).alloc _).grown hgr (fun q hq => by have := own_lt hown q hq; simpa using this), hE2.out, ?_⟩, by simp [intOf]; omega⟩
                  rw [HT.out, HS.out, List.flatMap_append, HSp.out]
                  exact hown'
                · have ha3' : (al == 3) = false := by simpa using ha3
                  clear ha3
                  have hn3 : ¬ al = 3 := by simpa using ha3'
                  by_cases ha2 : (al == 2) = true
                  · have hal : al = 2 := by simpa using ha2
                    have HSp : Hid (Reg.spot ⟨nm, top, hgt, lft, wid, al, false⟩ top (0 + (lens.take k).length) x = ⟨top + k, lft + (wid - x) / 2, x⟩) := by
                      show _ = _
                      rw [hkl.out]; unfold Reg.spot; simp [hal]
                    clear hal hn3
                    go_wp2_with (at_builtin; refine wpList_append1 rfl (.tmp 73) (.tmp 75) 161 rfl info_spot Tryz.underlying161 rfl (by decide) ((hown.alloc _).alloc _) (by exact rfl) (wr.heap.size + 1) _ (by exact rfl) (by exact Blk.new' (by simp)) (by exact rfl) (by simp [Value.oneCell']) (by omega) (by simp [maxLen]; omega) (by simp; omega) ?_; intro v' w' hown' hgr)
                    refine ⟨⟨k + 1, by omega, by go_num, ((hx.alloc _).alloc _).grown hgr (fun q hq => by have := own_lt hown q hq; simpa using this), hE2.out, ?_⟩, by simp [intOf]; omega⟩
                    rw [HT.out, HS.out, List.flatMap_append, HSp.out]
                    exact hown'
                  · have ha2' : (al == 2) = false := by simpa using ha2
                    clear ha2
                    have hn2 : ¬ al = 2 := by simpa using ha2'
                    have HSp : Hid (Reg.spot ⟨nm, top, hgt, lft, wid, al, false⟩ top (0 + (lens.take k).length) x = ⟨top + k, lft, x⟩) := by
                      show _ = _
                      rw [hkl.out]; unfold Reg.spot; simp [hn3, hn2]
                    clear hn2 hn3
                    go_wp2_with (at_builtin; refine wpList_append1 rfl (.tmp 73) (.tmp 75) 161 rfl info_spot Tryz.underlying161 rfl (by decide) ((hown.alloc _).alloc _) (by exact rfl) (wr.heap.size + 1) _ (by exact rfl) (by exact Blk.new' (by simp)) (by exact rfl) (by simp [Value.oneCell']) (by omega) (by simp [maxLen]; omega) (by simp; omega) ?_; intro v' w' hown' hgr)
                    refine ⟨⟨k + 1, by omega, by go_num, ((hx.alloc _).alloc _).grown hgr (fun q hq => by have := own_lt hown q hq; simpa using this), hE2.out, ?_⟩, by simp [intOf]; omega⟩
                    rw [HT.out, HS.out, List.flatMap_append, HSp.out]
                    exact hown'
          · have hkn : k = n := by omega
            subst hkn
            have HD : Hid (lens.drop k = []) := List.drop_eq_nil_of_le (by rw [HLn.out]; omega)
            have HTk : Hid (lens.take k = lens) := List.take_of_length_le (by rw [HLn.out]; omega)
            have HO := Lib.hid hown
            clear hown
            go_wp2_with fail
            go_ret2
            exact placePost_ok (by rw [HP.out, HPr.out, HD.out]; rfl) (by rw [HLn.out]; rfl) (HTk.out ▸ HO.out) (by rw [HLn.out]) hxw
      · go_enter Tryz.func151, Tryz.ntmps151
        go_wp2_with fail
        refine (HU.out _).mono ?_
        rintro e w1 ⟨rfl, hx1⟩
        rw [Hu.out]
        have hc := hx1.bcell.1 w.heap.size
        simp at hc
        go_wp2_with fail
        clear hc
        go_loopw [6, 20] (fun v i wr => PlaceRelI w #[.string nm, .int .i64 top, .int .i64 hgt, .int .i64 lft, .int .i64 wid, .int .u8 al, .bool true] ⟨nm, top, hgt, lft, wid, al, true⟩ (top + (hgt - n)) n lens v i wr) (fun _ i _ => n - (intOf i).toNat)
        case atStart => exact ⟨0, Nat.zero_le _, rfl, hx1, rfl, ⟨by simp [Reg.spots], .inl ⟨rfl, rfl⟩⟩⟩
        case round =>
          obtain ⟨k, hk, rfl, hx, hp, hown⟩ := hrel
          have HPr := Lib.hid hp
          clear hp
          have hB := Lib.hid (Blk.ext (Blk.new w _ _) hx)
          have hxw : Ext w wr := ((Ext.refl w).alloc _).trans hx
          have hc := fun o => hB.out.cell o
          have hsz : w.heap.size < wr.heap.size := hB.out.lt
          have hne : w.heap.size ≠ wr.heap.size := by omega
          by_cases hlt : k < n
          · obtain ⟨b, off, x, rfl, hxx, hcell⟩ := (HL.out.ext hxw).cell hlt
            have HX := Lib.hid hxx
            have HE := Lib.hid (lensErr_drop ⟨nm, top, hgt, lft, wid, al, true⟩ lens k x hxx)
            have HT := Lib.hid (take_snoc' lens k x hxx)
            have hkl : Hid ((lens.take k).length = k) := by show (lens.take k).length = k; rw [List.length_take, HLn.out]; omega
            clear hxx
            by_cases hneg : x < 0
            · go_wp2_with fail
              go_ret2
              exact placePost_err (k := 2) (by rw [HP.out, HPr.out, HE.out, if_pos (by omega)]) (by decide) rfl hxw
            · by_cases hwide : wid < x
              · go_wp2_with fail
                go_ret2
                exact placePost_err (k := 11) (by rw [HP.out, HPr.out, HE.out, if_neg (by omega), if_pos (by omega)]) (by decide) rfl hxw
              · have HS := Lib.hid (spots_snoc ⟨nm, top, hgt, lft, wid, al, true⟩ (top + (hgt - n)) (lens.take k) 0 x)
                have hE2 : Hid (Reg.lensErr ⟨nm, top, hgt, lft, wid, al, true⟩ lens = Reg.lensErr ⟨nm, top, hgt, lft, wid, al, true⟩ (lens.drop (k + 1))) := by
                  show _ = _
                  rw [HPr.out, HE.out, if_neg (by omega), if_neg (by omega)]
                by_cases ha3 : (al == 3) = true
                · have hal : al = 3 := by simpa using ha3
                  have HSp : Hid (Reg.spot ⟨nm, top, hgt, lft, wid, al, true⟩ (top + (hgt - n)) (0 + (lens.take k).length) x = ⟨top + k + (hgt - n), lft + (wid - x), x⟩) := by
                    show _ = _
                    rw [hkl.out]; unfold Reg.spot; simp [hal]; omega
                  clear hal
                  go_wp2_with (at_builtin; refine wpList_append1 rfl (.tmp 73) (.tmp 75) 161 rfl info_spot Tryz.underlying161 rfl (by decide) ((hown.alloc _).alloc _) (by exact rfl) (wr.heap.size + 1) _ (by exact rfl) (by exact Blk.new' (by simp)) (by exact rfl) (by simp [Value.oneCell']) (by omega) (by simp [maxLen]; omega) (by simp; omega) ?_; intro v' w' hown' hgr)
                  refine ⟨⟨k + 1, by omega, by go_num, ((hx.alloc _).alloc _).grown hgr (fun q hq => by have := own_lt hown q hq; simpa using this), hE2.out, ?_⟩, by simp [intOf]; omega⟩
                  rw [HT.out, HS.out, List.flatMap_append, HSp.out]
                  exact hown'
                · have ha3' : (al == 3) = false := by simpa using ha3
                  clear ha3
                  have hn3 : ¬ al = 3 := by simpa using ha3'
                  by_cases ha2 : (al == 2) = true
                  · have hal : al = 2 := by simpa using ha2
                    have HSp : Hid (Reg.spot ⟨nm, top, hgt, lft, wid, al, true⟩ (top + (hgt - n)) (0 + (lens.take k).length) x = ⟨top + k + (hgt - n), lft + (wid - x) / 2, x⟩) := by
                      show _ = _
                      rw [hkl.out]; unfold Reg.spot; simp [hal]; omega
                    clear hal hn3
                    go_wp2_with (at_builtin; refine wpList_append1 rfl (.tmp 73) (.tmp 75) 161 rfl info_spot Tryz.underlying161 rfl (by decide) ((hown.alloc _).alloc _) (by exact rfl) (wr.heap.size + 1) _ (by exact rfl) (by exact Blk.new' (by simp)) (by exact rfl) (by simp [Value.oneCell']) (by omega) (by simp [maxLen]; omega) (by simp; omega) ?_; intro v' w' hown' hgr)
                    refine ⟨⟨k + 1, by omega, by go_num, ((hx.alloc _).alloc _).grown hgr (fun q hq => by have := own_lt hown q hq; simpa using this), hE2.out, ?_⟩, by simp [intOf]; omega⟩
                    rw [HT.out, HS.out, List.flatMap_append, HSp.out]
                    exact hown'
                  · have ha2' : (al == 2) = false := by simpa using ha2
                    clear ha2
                    have hn2 : ¬ al = 2 := by simpa using ha2'
                    have HSp : Hid (Reg.spot ⟨nm, top, hgt, lft, wid, al, true⟩ (top + (hgt - n)) (0 + (lens.take k).length) x = ⟨top + k + (hgt - n), lft, x⟩) := by
                      show _ = _
                      rw [hkl.out]; unfold Reg.spot; simp [hn3, hn2]; omega
                    clear hn2 hn3
                    go_wp2_with (at_builtin; refine wpList_append1 rfl (.tmp 73) (.tmp 75) 161 rfl info_spot Tryz.underlying161 rfl (by decide) ((hown.alloc _).alloc _) (by exact rfl) (wr.heap.size + 1) _ (by exact rfl) (by exact Blk.new' (by simp)) (by exact rfl) (by simp [Value.oneCell']) (by omega) (by simp [maxLen]; omega) (by simp; omega) ?_; intro v' w' hown' hgr)
                    refine ⟨⟨k + 1, by omega, by go_num, ((hx.alloc _).alloc _).grown hgr (fun q hq => by have := own_lt hown q hq; simpa using this), hE2.out, ?_⟩, by simp [intOf]; omega⟩
                    rw [HT.out, HS.out, List.flatMap_append, HSp.out]
                    exact hown'
          · have hkn : k = n := by omega
            subst hkn
            have HD : Hid (lens.drop k = []) := List.drop_eq_nil_of_le (by rw [HLn.out]; omega)
            have HTk : Hid (lens.take k = lens) := List.take_of_length_le (by rw [HLn.out]; omega)
            have HO := Lib.hid hown
            clear hown
            go_wp2_with fail
            go_ret2
            exact placePost_ok (by rw [HP.out, HPr.out, HD.out]; rfl) (by rw [HLn.out]; rfl) (HTk.out ▸ HO.out) (by rw [HLn.out]) hxw
end Go.Proofs.YtagfedbdakmlgaaGreatDoor

/-! NeatR -/
namespace Go.Proofs.YtagfedbdakmlgaaGreatDoor
set_option linter.unusedVariables false
set_option linter.unusedSimpArgs false
open Go.RowKit

theorem idx_two : ∀ (l : List UInt8) (k : Nat), l[k]? = some 32 → l[k + 1]? = some 32 → 0 ≤ Lib.index l [32, 32]
  | [], k, h, _ => by simp at h
  | b :: l, 0, h, h2 => by
    unfold Lib.index
    cases l with
    | nil => simp at h2
    | cons c l =>
      simp at h h2
      subst h h2
      rw [if_pos (by rfl)]
      exact Int.le_refl _
  | b :: l, k + 1, h, h2 => by
    have ih := idx_two l k (by simpa using h) (by simpa using h2)
    unfold Lib.index
    split
    · exact Int.le_refl _
    · rw [if_neg (by simp; omega)]; omega
theorem idx_no : ∀ (l : List UInt8), (∀ k : Nat, l[k]? = some 32 → l[k + 1]? = some 32 → False) → Lib.index l [32, 32] = -1
  | [], _ => rfl
  | b :: l, h => by
    have ih := idx_no l fun k h1 h2 => h (k + 1) (by simpa using h1) (by simpa using h2)
    unfold Lib.index
    rw [if_neg, ih]
    · rfl
    · intro hp
      cases l with
      | nil => simp [List.isPrefixOf] at hp
      | cons c l =>
        simp only [List.isPrefixOf, Bool.and_true, Bool.and_eq_true, beq_iff_eq] at hp
        exact h 0 (by simp [hp.1]) (by simp [hp.2])
theorem at32 (s : ByteArray) (k : Nat) (h : k < s.size) : (s.data.toList[k]? = some 32) ↔ ((s[k].toNat : Int) == 32) = true := by
  have hl : s.data.toList[k]? = some s[k] := by
    rw [List.getElem?_eq_getElem (by simpa using h)]
    rfl
  rw [hl]
  constructor
  · intro h1
    have h2 : s[k] = 32 := Option.some.inj h1
    rw [h2]; rfl
  · intro h1
    have h2 : (s[k].toNat : Int) = 32 := by simpa using h1
    congr 1
    apply UInt8.toNat_inj.1
    have : s[k].toNat = 32 := by omega
    rw [this]; rfl
def NeatRel (s : ByteArray) (w : World) (i : Value) (wr : World) : Prop := ∃ k : Nat, 1 ≤ k ∧ k ≤ s.size ∧ i = .int .i64 k ∧ wr = w ∧ ∀ j, j + 1 < k → s.data.toList[j]? = some 32 → s.data.toList[j + 1]? = some 32 → False

set_option maxRecDepth 100000 in
set_option maxHeartbeats 1000000 in
theorem R11neat_any (s : ByteArray) (w : World) (hs : s.size ≤ 9223372036854775807) : Calls Tryz.prog 150 #[.string s] w fun e w' => e = .returned (.bool (!badS s)) ∧ Ext w w' := by
  by_cases e0 : s.toList.isEmpty = true
  · have HFb : Hid (badS s = true) := by show _ = _; unfold badS; rw [e0]; rfl
    go_enter Tryz.func150, Tryz.ntmps150
    go_wp2_with fail
    go_ret
    exact ⟨by rw [HFb.out]; rfl, Ext.refl _⟩
  have e0' : s.toList.isEmpty = false := by simpa using e0
  have hpos : 0 < s.size := by
    rcases Nat.eq_zero_or_pos s.size with h | h
    · exfalso
      apply e0
      have : s.toList = [] := by
        rw [ByteArray.toList_eq]
        exact List.eq_nil_of_length_eq_zero (by simpa using h)
      rw [this]; rfl
    · exact h
  clear e0
  by_cases e1 : ((s[0].toNat : Int) == 32) = true
  · have HFb : Hid (badS s = true) := by show _ = _; unfold badS; rw [decide_eq_true ((head_eq s hpos).2 e1)]; simp
    go_enter Tryz.func150, Tryz.ntmps150
    go_wp2_with fail
    go_ret
    exact ⟨by rw [HFb.out]; rfl, Ext.refl _⟩
  have e1' : ((s[0].toNat : Int) == 32) = false := by simpa using e1
  have hd1 := Lib.hid (decide_eq_false (p := s.data.toList.head? = some 32) (fun h => e1 ((head_eq s hpos).1 h)))
  clear e1
  have hz0 : (0 : Int) ≤ (s.size : Int) - 1 := by omega
  have hz1 : (s.size : Int) - 1 < (s.size : Int) := by omega
  by_cases e2 : ((s[s.size - 1].toNat : Int) == 32) = true
  · have HFb : Hid (badS s = true) := by show _ = _; unfold badS; rw [decide_eq_true ((last_eq s hpos).2 e2)]; simp
    go_enter Tryz.func150, Tryz.ntmps150
    go_wp2_with fail
    go_ret
    exact ⟨by rw [HFb.out]; rfl, Ext.refl _⟩
  have e2' : ((s[s.size - 1].toNat : Int) == 32) = false := by simpa using e2
  have hd2 := Lib.hid (decide_eq_false (p := s.data.toList.getLast? = some 32) (fun h => e2 ((last_eq s hpos).1 h)))
  clear e2
  have HFb : Hid (badS s = Lib.contains s.data.toList [32, 32]) := by show _ = _; unfold badS; rw [e0', hd1.out, hd2.out]; simp
  go_enter Tryz.func150, Tryz.ntmps150
  go_wp2_with fail
  go_loopw [3] (fun i wr => NeatRel s w i wr) (fun i _ => s.size - (intOf i).toNat)
  case atStart => exact ⟨1, Nat.le_refl _, hpos, rfl, rfl, fun j h => by omega⟩
  case round =>
    obtain ⟨k, hk1, hk, rfl, rfl, hno⟩ := hrel
    have HNo := Lib.hid hno
    clear hno e1' e2'
    by_cases hlt : k < s.size
    · have hk0 : (0 : Int) ≤ (k : Int) - 1 := by omega
      have hk2 : (k : Int) - 1 < (s.size : Int) := by omega
      have hk3 : ((k : Int) - 1).toNat = k - 1 := by omega
      have hk4 : k - 1 < s.size := by omega
      cases b1 : ((s[k].toNat : Int) == 32)
      · have HN : Hid (∀ j, j + 1 < k + 1 → s.data.toList[j]? = some 32 → s.data.toList[j + 1]? = some 32 → False) := fun j h h1 h2 => by
          by_cases hj : j + 1 = k
          · rw [hj, at32 s k hlt, b1] at h2; cases h2
          · exact HNo.out j (by omega) h1 h2
        go_wp2_with fail
        exact ⟨⟨k + 1, by omega, by omega, by go_num, rfl, HN.out⟩, by simp [intOf]; omega⟩
      · cases b2 : ((s[k - 1].toNat : Int) == 32)
        · have HN : Hid (∀ j, j + 1 < k + 1 → s.data.toList[j]? = some 32 → s.data.toList[j + 1]? = some 32 → False) := fun j h h1 h2 => by
            by_cases hj : j + 1 = k
            · obtain rfl : j = k - 1 := by omega
              rw [at32 s (k - 1) hk4, b2] at h1; cases h1
            · exact HNo.out j (by omega) h1 h2
          go_wp2_with fail
          exact ⟨⟨k + 1, by omega, by omega, by go_num, rfl, HN.out⟩, by simp [intOf]; omega⟩
        · have HC : Hid (Lib.contains s.data.toList [32, 32] = true) := by
            refine decide_eq_true (idx_two _ (k - 1) ((at32 s (k - 1) hk4).2 b2) ?_)
            rw [show k - 1 + 1 = k by omega]
            exact (at32 s k hlt).2 b1
          go_wp2_with fail
          go_ret
          exact ⟨by rw [HFb.out, HC.out]; rfl, Ext.refl _⟩
    · have HC : Hid (Lib.contains s.data.toList [32, 32] = false) := by
        refine decide_eq_false ?_
        rw [idx_no _ fun j h1 h2 => HNo.out j (by have := (List.getElem?_eq_some_iff.1 h2).1; simp at this; omega) h1 h2]
        decide
      go_wp2_with fail
      go_ret
      exact ⟨by rw [HFb.out, HC.out]; rfl, Ext.refl _⟩
end Go.Proofs.YtagfedbdakmlgaaGreatDoor

/-! RowR -/
namespace Go.Proofs.YtagfedbdakmlgaaGreatDoor
set_option linter.unusedVariables false
set_option linter.unusedSimpArgs false
open Go.RowKit

theorem R9Valid_any (c : Int) (i u : Bool) (w : World) : Calls Tryz.prog 187 #[.agg #[.int .u8 c, .bool i, .bool u]] w fun e w' => e = .returned (.bool (decide (c ≤ 6))) ∧ Ext w w' := by
  go_enter Tryz.func187, Tryz.ntmps187
  go_wp2
  go_ret
  exact ⟨rfl, (Ext.refl w).alloc _⟩

set_option maxHeartbeats 1000000 in
theorem R9Len_any (A : Option Addr) (n c : Nat) (l : Row) (w : World) (hE : Env w) (hl : RunsAt w A n l) (hb : rowBytes l ≤ 35184372088831) (hn : n ≤ 4611686018427387904) :
    Calls Tryz.prog 127 #[.agg #[.slice A n c]] w fun e w' => e = .returned (.int .i64 (rowLen l)) ∧ Ext w w' := by
  have HL := Lib.hid hl
  have HLn := Lib.hid hl.len
  clear hl
  have HEn := Lib.hid hE
  clear hE
  go_enter Tryz.func127, Tryz.ntmps127
  go_wp2_with fail
  go_loopw [3, 10] (fun v i wr => LenRel w n l v i wr) (fun _ i _ => n - (intOf i).toNat)
  case atStart =>
    refine ⟨0, 0, Nat.zero_le _, rfl, rfl, by omega, by simp, (Ext.refl w).alloc _, ?_⟩
    have := rowLen_ge l
    simp only [List.drop_zero]
    split <;> omega
  case round =>
    obtain ⟨k, s, hk, rfl, rfl, hs0, hs1, hx, hp⟩ := hrel
    have HP := Lib.hid hp
    clear hp
    by_cases hlt : k < n
    · obtain ⟨b, off, r, rfl, hr, hC⟩ := (HL.out.ext hx).at_ hlt
      obtain ⟨c0, c1, c2, c3, c4⟩ := hC
      have HD := Lib.hid (drop_at l k r hr)
      have hbt := rowBytes_drop l k r hr
      have hble := rowBytes_take_le l (k + 1)
      have hsz : (r.text.size : Int) ≤ 35184372088831 := by omega
      have hs2 : s + r.text.size ≤ 4611686018427387904 := by omega
      have hs3 : Hid (s + (r.text.size : Int) ≤ (rowBytes (l.take (k + 1)) : Int)) := by show s + (r.text.size : Int) ≤ _; omega
      clear hbt hble hr
      have hcl := clen_le r.text
      have hcg := clen_ge r.text
      have hcl2 : s + clen r.text ≤ 4611686018427387904 := by omega
      go_wp2_with fail
      refine (R8Len_any r.text _ (by omega)).mono ?_
      rintro e w2 ⟨rfl, hx2⟩
      by_cases hneg : clen r.text < 0
      · go_wp2_with fail
        go_ret
        refine ⟨ret_int ?_, (hx.alloc _).trans hx2⟩
        rw [HP.out, HD.out, rowLen, if_pos (by omega)]
      · go_wp2_with fail
        refine ⟨⟨k + 1, s + clen r.text, by omega, by go_num, rfl, by omega, ?_, (hx.alloc _).trans hx2, ?_⟩, by simp [intOf]; omega⟩
        · have := hs3.out; omega
        · rw [HP.out, HD.out]
          exact rowLen_step s r (l.drop (k + 1)) (by omega)
    · have HD : Hid (l.drop k = []) := List.drop_eq_nil_of_le (by rw [HLn.out]; omega)
      go_wp2_with fail
      go_ret
      exact ⟨ret_int (by rw [HP.out, HD.out]; simp [rowLen]), hx⟩


def RPlainRel (w : World) (n : Nat) (l : Row) (v i : Value) (wr : World) : Prop := ∃ k : Nat, k ≤ n ∧ i = .int .i64 k ∧ v = .string ⟨(rowText (l.take k)).toArray⟩ ∧ Ext w wr
theorem ba_append (x : List UInt8) (s : ByteArray) : (⟨x.toArray⟩ : ByteArray) ++ s = ⟨(x ++ s.data.toList).toArray⟩ := by
  apply ByteArray.ext
  simp [ByteArray.data_append]
set_option maxHeartbeats 1000000 in
theorem R9Plain_any (A : Option Addr) (n c : Nat) (l : Row) (w : World) (hl : RunsAt w A n l) (hb : rowBytes l ≤ 4611686018427387904) (hn : n ≤ 4611686018427387904) :
    Calls Tryz.prog 137 #[.agg #[.slice A n c]] w fun e w' => e = .returned (.string ⟨(rowText l).toArray⟩) ∧ Ext w w' := by
  have HL := Lib.hid hl
  have HLn := Lib.hid hl.len
  clear hl
  go_enter Tryz.func137, Tryz.ntmps137
  go_wp2_with fail
  go_loopw [3, 9] (fun v i wr => RPlainRel w n l v i wr) (fun _ i _ => n - (intOf i).toNat)
  case atStart => exact ⟨0, Nat.zero_le _, rfl, rfl, (Ext.refl w).alloc _⟩
  case round =>
    obtain ⟨k, hk, rfl, rfl, hx⟩ := hrel
    by_cases hlt : k < n
    · obtain ⟨b, off, r, rfl, hr, hC⟩ := (HL.out.ext hx).at_ hlt
      obtain ⟨c0, c1, c2, c3, c4⟩ := hC
      have HT := Lib.hid (rowText_snoc l k r hr)
      have hbt := rowBytes_drop l k r hr
      have hble := rowBytes_take_le l (k + 1)
      have hlen := rowText_len (l.take k)
      clear hr
      obtain ⟨xs, hxs⟩ : ∃ xs, xs = rowText (l.take k) := ⟨_, rfl⟩
      rw [← hxs]
      rw [← hxs] at HT hlen
      have hcat : ¬ 9223372036854775807 < xs.length + r.text.size := by omega
      clear hxs hbt hble hlen
      go_wp2_with fail
      refine ⟨?_, by simp [intOf]; omega⟩
      refine ⟨k + 1, by omega, by go_num, ?_, hx.alloc _⟩
      rw [HT.out, ← ba_append]
    · have HT : Hid (l.take k = l) := List.take_of_length_le (by rw [HLn.out]; omega)
      go_wp2_with fail
      go_ret
      exact ⟨by rw [HT.out]; rfl, hx⟩
end Go.Proofs.YtagfedbdakmlgaaGreatDoor

/-! RowRC -/
namespace Go.Proofs.YtagfedbdakmlgaaGreatDoor
set_option linter.unusedVariables false
set_option linter.unusedSimpArgs false
open Go.RowKit

set_option maxRecDepth 100000 in
set_option maxHeartbeats 2000000 in
theorem R9Check_any (A : Option Addr) (n c : Nat) (l : Row) (w : World) (hE : Env w) (hl : RunsAt w A n l) (hb : ∀ r ∈ l, r.text.size ≤ 4611686018427387904 ∧ r.ruby.size ≤ 4611686018427387904) (hn : n ≤ 4611686018427387904) :
    Calls Tryz.prog 149 #[.agg #[.slice A n c]] w fun e w' => e = .returned (.int .i64 (rowErr l)) ∧ Ext w w' := by
  have HL := Lib.hid hl
  have HLn := Lib.hid hl.len
  have HEn := Lib.hid hE
  have HBd := Lib.hid hb
  clear hl hE hb
  by_cases h16 : 16 < n
  · have HF : Hid (rowErr l = 9) := by show rowErr l = 9; unfold rowErr; rw [if_pos (by rw [HLn.out]; exact h16)]
    have h16' : (16 : Int) < (n : Int) := by omega
    go_enter Tryz.func149, Tryz.ntmps149
    go_wp2_with fail
    go_ret
    exact ⟨ret_int HF.out.symm, (Ext.refl w).alloc _⟩
  · have HF : Hid (rowErr l = runsErr none l) := by show rowErr l = _; unfold rowErr; rw [if_neg (by rw [HLn.out]; exact h16)]
    have h16' : (n : Int) ≤ 16 := by omega
    clear h16
    go_enter Tryz.func149, Tryz.ntmps149
    go_wp2_with fail
    go_loopw [12] (fun i wr => CheckRel w #[.slice A n c] n l i wr) (fun i _ => n - (intOf i).toNat)
    case atStart => exact ⟨0, Nat.zero_le _, rfl, Ext.refl _, rfl⟩
    case round =>
      obtain ⟨k, hk, rfl, hx, hp⟩ := hrel
      have HP := Lib.hid hp
      clear hp
      have hxw : Ext w wr := ((Ext.refl w).alloc _).trans hx
      by_cases hlt : k < n
      · have HB0 := Lib.hid (Blk.ext (Blk.new w _ _) hx)
        obtain ⟨b, off, r, rfl, hr, hC⟩ := (HL.out.ext hxw).at_ hlt
        obtain ⟨c0, c1, c2, c3, c4⟩ := hC
        have HD := Lib.hid (drop_at l k r hr)
        have HA := Lib.hid (ahead_succ l k r hr)
        have hbd := HBd.out r (List.mem_of_getElem? hr)
        obtain ⟨hb1, hb2⟩ := hbd
        have HR := Lib.hid hr
        clear hr
        have HPs : Hid (runsErr none l = if runErr (ahead l k) r = 0 then runsErr (ahead l (k + 1)) (l.drop (k + 1)) else runErr (ahead l k) r) := by
          show _ = _
          rw [HP.out, HD.out, HA.out]
          rfl
        clear HP HD HA
        have hblt : w.heap.size < wr.heap.size := HB0.out.lt
        have hbne : w.heap.size ≠ wr.heap.size := by omega
        go_wp2_with fail
        refine (RValid_any r.text _ (by omega)).mono ?_
        rintro e w2 ⟨rfl, hx2⟩
        have HB2 := Lib.hid (Blk.ext (Blk.new wr _ _) hx2)
        have hxw2 : Ext w w2 := (hxw.alloc _).trans hx2
        cases hv : vld r.text
        · have HV := Lib.hid hv
          clear hv
          go_wp2_with fail
          go_ret
          refine ⟨ret_int ?_, hxw2⟩
          rw [HF.out, HPs.out, runErr_text HV.out]
          rfl
        · have HV := Lib.hid hv
          clear hv
          have hc2 := fun o => HB2.out.cell o
          cases he : r.text.toList.isEmpty
          · by_cases hcol : r.color ≤ 6
            · go_wp2_with fail
              refine (R9Valid_any _ _ _ _).mono ?_
              rintro e w3 ⟨rfl, hx3⟩
              have HB3 := Lib.hid (HB2.out.ext hx3)
              clear hc2
              have hc3 := fun o => HB3.out.cell o
              go_wp2_with fail
              refine (RValid_any r.ruby _ (by omega)).mono ?_
              rintro e w4 ⟨rfl, hx4⟩
              have HB4 := Lib.hid (HB3.out.ext hx4)
              have hxw4 : Ext w w4 := (hxw2.trans hx3).trans hx4
              clear hc3
              cases hvr : vld r.ruby
              · have HVr := Lib.hid hvr
                clear hvr
                go_wp2_with fail
                go_ret
                refine ⟨ret_int ?_, hxw4⟩
                rw [HF.out, HPs.out, runErr_ruby HV.out he hcol HVr.out]
                rfl
              · have HVr := Lib.hid hvr
                clear hvr
                have HE2 := Lib.hid (runErr_last (p := ahead l k) HV.out he hcol HVr.out)
                by_cases hk0 : k = 0
                · subst hk0
                  have HAl : Hid (runErr (ahead l 0) r = 0) := by show _ = _; rw [HE2.out]; rfl
                  have HPt : Hid (runsErr none l = runsErr (ahead l (0 + 1)) (l.drop (0 + 1))) := by show _ = _; rw [HPs.out, if_pos HAl.out]
                  go_wp2_with fail
                  go_quiet (fail)
                  go_wp2_with fail
                  exact ⟨⟨0 + 1, by omega, by go_num, ((hx.alloc _).trans ((hx2.trans hx3).trans hx4)).drewN _, HPt.out⟩, by simp [intOf]; omega⟩
                · obtain ⟨m, rfl⟩ : ∃ m, k = m + 1 := ⟨k - 1, by omega⟩
                  obtain ⟨q, hq⟩ : ∃ q, l[m]? = some q := by
                    have : m < l.length := by rw [HLn.out]; omega
                    exact ⟨_, List.getElem?_eq_getElem this⟩
                  have HAh : Hid (ahead l (m + 1) = some q) := by show _ = _; unfold ahead; rw [if_neg hk0]; exact hq
                  obtain ⟨b', off', q', hA', hq', hC'⟩ := (HL.out.ext hxw4).at_ (i := m) (by omega)
                  cases hA'
                  rw [hq] at hq'
                  cases hq'
                  obtain ⟨d0, d1, d2, d3, d4⟩ := hC'
                  have HQ := Lib.hid hq
                  clear hq hk0
                  have hm0 : (0 : Int) ≤ (m : Int) := by omega
                  have hm1 : (m : Int) < (n : Int) := by omega
                  have hm2 : (0 : Int) < (m : Int) + 1 := by omega
                  have hm3 : m < n := by omega
                  have e1 : IntKind.i64.wrap (m : Int) = (m : Int) := IntWalk.i64_in _ (by omega)
                  have hc4 := fun o => HB4.out.cell o
                  have HB04 := Lib.hid (HB0.out.ext (((Ext.refl wr).alloc _).trans ((hx2.trans hx3).trans hx4)))
                  have hc0 := fun o => HB04.out.cell o
                  have z0 : w4.cell? ⟨w.heap.size, 0, none⟩ = some (.slice (some ⟨b, off, none⟩) n c) := hc0 0
                  have z1 : w4.cell? ⟨wr.heap.size, 0, none⟩ = some (.string r.text) := hc4 0
                  have z2 : w4.cell? ⟨wr.heap.size, 1, none⟩ = some (.int .u8 r.color) := hc4 1
                  have z3 : w4.cell? ⟨wr.heap.size, 2, none⟩ = some (.bool r.italic) := hc4 2
                  have z4 : w4.cell? ⟨wr.heap.size, 3, none⟩ = some (.bool r.under) := hc4 3
                  have z5 : w4.cell? ⟨wr.heap.size, 4, none⟩ = some (.string r.ruby) := hc4 4
                  clear hc0 hc4 c0 c1 c2 c3 c4
                  have hxa : Ext (w.alloc (.cells #[.slice (some ⟨b, off, none⟩) n c] 87)) w4 := (hx.alloc _).trans ((hx2.trans hx3).trans hx4)
                  have hxw5 : Ext w w4 := ((Ext.refl w).alloc _).trans hxa
                  have hq9 := fun w => eql_style q.color r.color q.italic r.italic q.under r.under w
                  by_cases hs : q.color = r.color ∧ q.italic = r.italic ∧ q.under = r.under
                  · rw [decide_eq_true hs] at hq9
                    have HSs := Lib.hid hs
                    clear hs
                    cases hqr : q.ruby.toList.isEmpty
                    · have HAk : Hid (alikeB q r = false) := by show _ = _; unfold alikeB; rw [decide_eq_false (p := q.ruby.toList = []) (fun h => by rw [h] at hqr; exact absurd hqr (by decide))]; simp
                      have HAl : Hid (runErr (ahead l (m + 1)) r = 0) := by show _ = _; rw [HE2.out, HAh.out, Option.any_some, HAk.out]; rfl
                      have HPt : Hid (runsErr none l = runsErr (ahead l (m + 1 + 1)) (l.drop (m + 1 + 1))) := by show _ = _; rw [HPs.out, if_pos HAl.out]
                      go_wp2_with fail
                      go_quiet (fail)
                      go_wp2_with fail
                      exact ⟨⟨m + 1 + 1, by omega, by go_num, hxa.drewN _, HPt.out⟩, by simp [intOf]; omega⟩
                    · cases hrr : r.ruby.toList.isEmpty
                      · have HAk : Hid (alikeB q r = false) := by show _ = _; unfold alikeB; rw [decide_eq_false (p := r.ruby.toList = []) (fun h => by rw [h] at hrr; exact absurd hrr (by decide))]; simp
                        have HAl : Hid (runErr (ahead l (m + 1)) r = 0) := by show _ = _; rw [HE2.out, HAh.out, Option.any_some, HAk.out]; rfl
                        have HPt : Hid (runsErr none l = runsErr (ahead l (m + 1 + 1)) (l.drop (m + 1 + 1))) := by show _ = _; rw [HPs.out, if_pos HAl.out]
                        go_wp2_with fail
                        go_quiet (fail)
                        go_wp2_with fail
                        exact ⟨⟨m + 1 + 1, by omega, by go_num, hxa.drewN _, HPt.out⟩, by simp [intOf]; omega⟩
                      · have HAk : Hid (alikeB q r = true) := by show _ = _; unfold alikeB Run.plainStyle; rw [decide_eq_true (p := r.ruby.toList = []) ((isEmpty_iff _).1 hrr), decide_eq_true (p := q.ruby.toList = []) ((isEmpty_iff _).1 hqr), decide_eq_true HSs.out]; rfl
                        have HAl : Hid (runErr (ahead l (m + 1)) r = 8) := by show _ = _; rw [HE2.out, HAh.out, Option.any_some, HAk.out]; rfl
                        go_wp2_with fail
                        go_quiet (fail)
                        go_wp2_with fail
                        go_ret
                        exact ⟨ret_int (by rw [HF.out, HPs.out, HAl.out]; rfl), hxw5.drewN _⟩
                  · rw [decide_eq_false hs] at hq9
                    have HAk : Hid (alikeB q r = false) := by show _ = _; unfold alikeB Run.plainStyle; rw [decide_eq_false hs]; simp
                    clear hs
                    have HAl : Hid (runErr (ahead l (m + 1)) r = 0) := by show _ = _; rw [HE2.out, HAh.out, Option.any_some, HAk.out]; rfl
                    have HPt : Hid (runsErr none l = runsErr (ahead l (m + 1 + 1)) (l.drop (m + 1 + 1))) := by show _ = _; rw [HPs.out, if_pos HAl.out]
                    go_wp2_with fail
                    go_quiet (fail)
                    go_wp2_with fail
                    exact ⟨⟨m + 1 + 1, by omega, by go_num, hxa.drewN _, HPt.out⟩, by simp [intOf]; omega⟩
            · have HC := Lib.hid hcol
              have hd : decide (r.color ≤ 6) = false := decide_eq_false hcol
              clear hcol
              go_wp2_with fail
              refine (R9Valid_any _ _ _ _).mono ?_
              rintro e w3 ⟨rfl, hx3⟩
              go_wp2_with fail
              go_ret
              refine ⟨ret_int ?_, hxw2.trans hx3⟩
              rw [HF.out, HPs.out, runErr_color HV.out he (by have := HC.out; omega)]
              rfl
          · go_wp2_with fail
            go_ret
            refine ⟨ret_int ?_, hxw2⟩
            rw [HF.out, HPs.out, runErr_empty HV.out he]
            rfl
      · have HD : Hid (l.drop k = []) := List.drop_eq_nil_of_le (by rw [HLn.out]; omega)
        go_wp2_with fail
        go_ret
        exact ⟨ret_int (by rw [HF.out, HP.out, HD.out]; rfl), hxw⟩
end Go.Proofs.YtagfedbdakmlgaaGreatDoor
