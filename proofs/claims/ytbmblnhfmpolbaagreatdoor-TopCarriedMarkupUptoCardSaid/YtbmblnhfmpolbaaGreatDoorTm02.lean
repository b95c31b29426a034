/- Texts laid together. -/
import Derived.Test.YtbmblnhfmpolbaaGreatDoorShelf
import Derived.Test.YtbmblnhfmpolbaaGreatDoorTm01
import Derived.Lib.Builder
import Derived.Lib.AppendStr
set_option linter.unusedVariables false
set_option linter.unusedSimpArgs false
namespace Go.Proofs.YtbmblnhfmpolbaaGreatDoor
section
open Go.RowKit
theorem info_byte : (Tryz.prog.info? 5).map (fun i => (i.zero, i.size, i.bytes)) = some (some (.int .u8 0), 1, 1) := by kernel_rfl
theorem size_builder : (Tryz.prog.info? 92).map (·.size) = some 2 := by kernel_rfl
set_option maxHeartbeats 1000000 in
set_option maxRecDepth 100000 in
theorem copyCheck_used (b : Nat) (w : World) (h0 : w.cell? ⟨b, 0, none⟩ = some (.pointer (some ⟨b, 0, none⟩))) :
 Calls Tryz.prog 47 #[.pointer (some ⟨b, 0, none⟩)] w fun e w' => e = .returned (.tuple #[]) ∧ w' = w := by
 obtain ⟨j, hj, _⟩ := Option.map_eq_some_iff.1 size_builder
 go_enter Tryz.func47, Tryz.ntmps47
 go_wp2
 rw [Lib.run_neq_ptr_same w _ Tryz.underlying89 hj]
 go_wp2
 go_end0
 exact ⟨rfl, rfl⟩
set_option maxHeartbeats 1000000 in
set_option maxRecDepth 100000 in
theorem copyCheck_fresh (b : Nat) (w : World) (h0 : w.cell? ⟨b, 0, none⟩ = some (.pointer none)) (hsh : w.shape? b = some (92, 2)) (hfz : w.frozen? ⟨b, 0, none⟩ = false) :
 Calls Tryz.prog 47 #[.pointer (some ⟨b, 0, none⟩)] w fun e w' => e = .returned (.tuple #[]) ∧ w' = w.setCell ⟨b, 0, none⟩ (.pointer (some ⟨b, 0, none⟩)) := by
 obtain ⟨j, hj, hjs⟩ := Option.map_eq_some_iff.1 size_builder
 go_enter Tryz.func47, Tryz.ntmps47
 go_wp2
 rw [Lib.run_to_unsafe w ⟨b, 0, none⟩ Tryz.underlying89 Tryz.underlying177 hj (by rw [hjs]; decide) hsh (Nat.zero_lt_succ 1)]
 simp only [Result.andThen]
 rw [Oper.upon_value]
 go_wp2
 rw [run_callFunc_extern Tryz.func88 (by kernel_rfl) (by kernel_rfl) (by kernel_rfl) (e := Extern.AbiNoEscape.same) (by kernel_rfl)]
 rw [Lib.run_noEscape]
 simp only [Result.andThen]
 rw [Oper.upon_value]
 go_wp2
 rw [Lib.run_from_unsafe w ⟨b, 0, none⟩ Tryz.underlying177 Tryz.underlying89 hj hsh (by kernel_rfl)]
 simp only [Result.andThen]
 rw [Oper.upon_value]
 go_wp2
 go_end0
 exact ⟨rfl, rfl⟩
theorem copyCheck_any (B b : Nat) (bs : List Value) (w : World) (h : Lib.IsBuilder 92 5 B b bs w) :
 Calls Tryz.prog 47 #[.pointer (some ⟨b, 0, none⟩)] w fun e w' => e = .returned (.tuple #[]) ∧ (Lib.BuilderAt 92 5 B b (.pointer (some ⟨b, 0, none⟩)) bs w' ∧ Below B w w') := by
 rcases h with h | h
 · refine (copyCheck_fresh b w h.cell0 h.shape h.frozen0).mono ?_
   rintro e w' ⟨rfl, rfl⟩
   exact ⟨rfl, h.used _, (Below.refl B w).setCell (p := ⟨b, 0, none⟩) h.1 _⟩
 · refine (copyCheck_used b w h.cell0).mono ?_
   rintro e w' ⟨rfl, rfl⟩
   exact ⟨rfl, h, Below.refl B _⟩
set_option maxHeartbeats 2000000 in
set_option maxRecDepth 100000 in
theorem WriteString_any (B b : Nat) (bs : List Value) (s : ByteArray) (w : World) (h : Lib.IsBuilder 92 5 B b bs w) (hlen : bs.length + s.size ≤ 140737488355328) (hBw : B ≤ w.heap.size) :
 Calls Tryz.prog 25 #[.pointer (some ⟨b, 0, none⟩), .string s] w fun e w' => e = .returned (.tuple #[.int .i64 s.size, .nilIface]) ∧ (Lib.BuilderAt 92 5 B b (.pointer (some ⟨b, 0, none⟩)) (bs ++ Lib.strCells s) w' ∧ Below B w w') := by
 obtain ⟨i0, hi, hz0, hz1, hz2⟩ := info_parts info_byte
 go_enter Tryz.func25, Tryz.ntmps25
 go_wp2_with fail
 refine (copyCheck_any B b bs _ h).mono ?_
 rintro e w1 ⟨rfl, h1, hb1⟩
 obtain ⟨hB, v, hbk, hown, hne⟩ := h1
 have c0 : w1.cell? ⟨b, 0, none⟩ = some (.pointer (some ⟨b, 0, none⟩)) := by rw [Lib.cell_of_heap hbk]; rfl
 have c1 : w1.cell? ⟨b, 1, none⟩ = some v := by rw [Lib.cell_of_heap hbk]; rfl
 go_wp2_with (at_builtin; refine Lib.wpList_append_own_string _ rfl _ _ 90 9 rfl B 5 i0 Tryz.underlying90 Tryz.underlying9 hi hz0 hz1 hz2 _ _ _ rfl hown s rfl ?c3 ?c4 ?c5 ?_)
 case c3 => unfold maxLen; omega
 case c4 => omega
 case c5 => have := hb1.size; omega
 intro v' w2 hown' hgrow _
 have hlt : b < w1.heap.size := (Array.getElem?_eq_some_iff.1 hbk).1
 have hb2 : w2.heap[b]? = some (.cells #[.pointer (some ⟨b, 0, none⟩), v] 92 (0, 0)) := by
  rw [hgrow.block b hlt (fun e => hne e.symm)]
  exact hbk
 have d0 : w2.cell? ⟨b, 0, none⟩ = some (.pointer (some ⟨b, 0, none⟩)) := by rw [Lib.cell_of_heap hb2]; rfl
 have d1 : w2.cell? ⟨b, 1, none⟩ = some v := by rw [Lib.cell_of_heap hb2]; rfl
 have f1 : w2.frozen? ⟨b, 1, none⟩ = false := Lib.frozen_of_heap hb2 1
 obtain ⟨ao, n', cap, rfl⟩ : ∃ ao n' cap, v' = .slice ao n' cap := by
  rcases hown'.2 with ⟨hv, _⟩ | ⟨g, cap, cur, hv, _⟩
  · exact ⟨_, _, _, hv⟩
  · exact ⟨_, _, _, hv⟩
 go_wp2
 go_ret2
 refine ⟨rfl, ?_, ?_⟩
 · exact Lib.BuilderAt.put (T := 92) (e := 5) hB hb2 (bs' := bs ++ Lib.strCells s) (by simpa [Lib.strCells_length] using hown') (by decide)
 · exact (hb1.grown hgrow (by have := hb1.size; omega) (fun k hk => (hown.lt k hk).1)).setCell (p := ⟨b, 1, none⟩) hB _
end
section
open Go.RowKit
def nbI (c : Int) : Bool := decide ((65 ≤ c ∧ c ≤ 90) ∨ (48 ≤ c ∧ c ≤ 57) ∨ c = 95 ∨ c = 45)
def nameB (s : ByteArray) : Bool := decide (1 ≤ s.size ∧ s.size ≤ 16) && (s.data.toList.take 1).all (fun c => decide (65 ≤ (c.toNat : Int) ∧ (c.toNat : Int) ≤ 90)) && s.data.toList.all (fun c => nbI c.toNat)
theorem take_snoc (s : ByteArray) (k : Nat) (h : k < s.size) : s.data.toList.take (k + 1) = s.data.toList.take k ++ [s[k]] := by
 rw [List.take_succ_eq_append_getElem (by simpa using h)]; rfl
theorem nameB_small {s : ByteArray} (h : ¬ (1 ≤ s.size ∧ s.size ≤ 16)) : nameB s = false := by unfold nameB; rw [decide_eq_false h]; rfl
theorem nameB_head {s : ByteArray} (h : 0 < s.size) (hc : ¬ ((65 : Int) ≤ (s[0].toNat : Int) ∧ (s[0].toNat : Int) ≤ 90)) : nameB s = false := by
 unfold nameB
 have e := take_snoc s 0 h
 simp only [Nat.zero_add, List.take_zero, List.nil_append] at e
 rw [e, List.all_cons, decide_eq_false hc]
 simp
theorem nameB_at {s : ByteArray} (k : Nat) (h : k < s.size) (hc : nbI (s[k].toNat : Int) = false) : nameB s = false := by
 unfold nameB
 have : (s.data.toList.all fun c => nbI c.toNat) = false := by
  rw [List.all_eq_false]
  exact ⟨s[k], by simp [ByteArray.getElem_eq_getElem_data], by rw [hc]; simp⟩
 rw [this, Bool.and_false]
theorem nameB_yes {s : ByteArray} (h : 1 ≤ s.size ∧ s.size ≤ 16) (h0 : 0 < s.size) (hc : (65 : Int) ≤ (s[0].toNat : Int) ∧ (s[0].toNat : Int) ≤ 90) (ha : (s.data.toList.take s.size).all (fun c => nbI c.toNat) = true) : nameB s = true := by
 unfold nameB
 have e := take_snoc s 0 h0
 simp only [Nat.zero_add, List.take_zero, List.nil_append] at e
 rw [List.take_of_length_le (by simp)] at ha
 rw [e, List.all_cons, decide_eq_true hc, decide_eq_true h, ha]
 rfl
def NameRel (s : ByteArray) (i : Value) : Prop := ∃ k : Nat, k ≤ s.size ∧ i = .int .i64 k ∧ (s.data.toList.take k).all (fun c => nbI c.toNat) = true
set_option maxHeartbeats 1000000 in
theorem Name_any (s : ByteArray) (w : World) (hs : s.size ≤ 9223372036854775807) :
 Calls Tryz.prog 75 #[.string s] w fun e w' => e = .returned (.bool (nameB s)) ∧ w = w' := by
 by_cases h : 1 ≤ s.size
 · by_cases h' : s.size ≤ 16
   · have h1 : (1 : Int) ≤ (s.size : Int) := by omega
     have h2 : (s.size : Int) ≤ 16 := by omega
     have h0 : 0 < s.size := by omega
     have HS := Lib.hid (And.intro h h')
     by_cases hc1 : (65 : Int) ≤ (s[0].toNat : Int)
     · by_cases hc2 : (s[0].toNat : Int) ≤ 90
       · go_enter Tryz.func75, Tryz.ntmps75
         go_wp2
         go_loop [25] (fun i => NameRel s i) (fun i => s.size - (intOf i).toNat)
         case atStart => exact ⟨0, Nat.zero_le _, rfl, rfl⟩
         case round =>
          obtain ⟨k, hk, rfl, hall⟩ := hrel
          have HA := Lib.hid hall
          clear hall
          by_cases hlt : k < s.size
          · by_cases hb : nbI (s[k].toNat : Int) = true
            · have HA' : Hid ((s.data.toList.take (k + 1)).all (fun c => nbI c.toNat) = true) := by
               show (s.data.toList.take (k + 1)).all (fun c => nbI c.toNat) = true
               rw [take_snoc s k hlt, List.all_append, HA.out]
               simp [hb]
              have hb' : ((65 : Int) ≤ (s[k].toNat : Int) ∧ (s[k].toNat : Int) ≤ 90) ∨ ((48 : Int) ≤ (s[k].toNat : Int) ∧ (s[k].toNat : Int) ≤ 57) ∨ (s[k].toNat : Int) = 95 ∨ (s[k].toNat : Int) = 45 := of_decide_eq_true hb
              clear hb
              go_wp2
              all_goals first
               | exact ⟨⟨k + 1, by omega, by go_num, HA'.out⟩, by simp [intOf]; omega⟩
               | (exfalso; simp at *; omega)
            · have HB := Lib.hid (nameB_at k hlt (by simpa using hb))
              have hb' : ¬ (((65 : Int) ≤ (s[k].toNat : Int) ∧ (s[k].toNat : Int) ≤ 90) ∨ ((48 : Int) ≤ (s[k].toNat : Int) ∧ (s[k].toNat : Int) ≤ 57) ∨ (s[k].toNat : Int) = 95 ∨ (s[k].toNat : Int) = 45) := fun x => hb (decide_eq_true x)
              clear hb
              go_wp2
              all_goals first
               | (go_ret; exact ⟨by rw [HB.out]; rfl, rfl⟩)
               | (exfalso; simp at *; omega)
          · have ek : k = s.size := by omega
            subst ek
            go_wp2
            go_ret
            exact ⟨by rw [nameB_yes HS.out h0 ⟨hc1, hc2⟩ HA.out]; rfl, rfl⟩
       · have HF := Lib.hid (nameB_head h0 (by omega))
         go_enter Tryz.func75, Tryz.ntmps75
         go_wp2
         go_ret
         exact ⟨by rw [HF.out]; rfl, rfl⟩
     · have HF := Lib.hid (nameB_head h0 (by omega))
       go_enter Tryz.func75, Tryz.ntmps75
       go_wp2
       go_ret
       exact ⟨by rw [HF.out]; rfl, rfl⟩
   · have HF := Lib.hid (nameB_small (s := s) (by omega))
     have h1 : (16 : Int) < (s.size : Int) := by omega
     go_enter Tryz.func75, Tryz.ntmps75
     go_wp2
     go_ret
     exact ⟨by rw [HF.out]; rfl, rfl⟩
 · have HF := Lib.hid (nameB_small (s := s) (by omega))
   have h1 : (s.size : Int) < 1 := by omega
   go_enter Tryz.func75, Tryz.ntmps75
   go_wp2
   go_ret
   exact ⟨by rw [HF.out]; rfl, rfl⟩
end
section
open Go.RowKit
structure Reg where
 name : ByteArray
 top : Int
 height : Int
 left : Int
 width : Int
 align : Int
 bottom : Bool
 deriving DecidableEq
def Reg.val (r : Reg) : Value := .agg #[.string r.name, .int .i64 r.top, .int .i64 r.height, .int .i64 r.left, .int .i64 r.width, .int .u8 r.align, .bool r.bottom]
def Reg.zero : Reg := ⟨ByteArray.empty, 0, 0, 0, 0, 0, false⟩
def Reg.default : Reg := ⟨ByteArray.empty, 11, 4, 0, 32, 2, true⟩
theorem from_yes (n lo hi : Int) (w : World) (h : lo ≤ n ∧ n ≤ hi) : Calls Tryz.prog 113 #[.int .i64 n, .int .i64 lo, .int .i64 hi] w fun e w' => e = .returned (.bool true) ∧ w = w' := by
 obtain ⟨h1, h2⟩ := h
 go_enter Tryz.func113, Tryz.ntmps113
 go_wp2
 go_ret
 exact ⟨by simp [h2], rfl⟩
theorem from_no (n lo hi : Int) (w : World) (h : ¬ (lo ≤ n ∧ n ≤ hi)) : Calls Tryz.prog 113 #[.int .i64 n, .int .i64 lo, .int .i64 hi] w fun e w' => e = .returned (.bool false) ∧ w = w' := by
 by_cases h1 : lo ≤ n
 · have h2 : ¬ n ≤ hi := fun x => h ⟨h1, x⟩
   clear h
   go_enter Tryz.func113, Tryz.ntmps113
   go_wp2
   go_ret
   exact ⟨rfl, rfl⟩
 · clear h
   go_enter Tryz.func113, Tryz.ntmps113
   go_wp2
   go_ret
   exact ⟨rfl, rfl⟩
set_option maxHeartbeats 400000 in
theorem Default_any (w : World) : Calls Tryz.prog 114 #[] w fun e w' => e = .returned Reg.default.val ∧ Ext w w' := by
 go_enter Tryz.func114, Tryz.ntmps114
 go_wp2
 exact bodyPost_ret (v := Reg.default.val) (by simp [results, Tryz.results114, go_sem, Reg.val, Reg.default]; rfl) rfl ⟨rfl, (Ext.refl w).alloc _⟩
def Reg.inGrid (r : Reg) : Prop := (0 ≤ r.top ∧ r.top ≤ 14) ∧ (1 ≤ r.height ∧ r.height ≤ 15 - r.top) ∧ (0 ≤ r.left ∧ r.left ≤ 31) ∧ (1 ≤ r.width ∧ r.width ≤ 32 - r.left)
instance (r : Reg) : Decidable r.inGrid := by unfold Reg.inGrid; infer_instance
def Reg.check (r : Reg) : Int := if nameB r.name = false then 5 else if ¬ r.inGrid then 2 else if r.align < 1 ∨ 3 < r.align then 3 else 0
set_option maxHeartbeats 1000000 in
theorem RCheck_any (r : Reg) (w : World) (hs : r.name.size ≤ 9223372036854775807) : Calls Tryz.prog 77 #[r.val] w fun e w' => e = .returned (.int .i64 r.check) ∧ Ext w w' := by
 obtain ⟨nm, top, hgt, lft, wid, al, bot⟩ := r
 unfold Reg.val
 dsimp only
 cases hn : nameB nm
 · have HN := Lib.hid hn
   have HF : Hid (Reg.check ⟨nm, top, hgt, lft, wid, al, bot⟩ = 5) := by show Reg.check _ = 5; unfold Reg.check; rw [if_pos hn]
   clear hn
   go_enter Tryz.func77, Tryz.ntmps77
   go_wp2_with fail
   refine (Name_any nm _ hs).mono ?_
   rintro e w1 ⟨rfl, rfl⟩
   rw [HN.out]
   go_wp2_with fail
   go_ret
   exact ⟨ret_int HF.out.symm, (Ext.refl w).alloc _⟩
 · have HN := Lib.hid hn
   have HC : Hid (Reg.check ⟨nm, top, hgt, lft, wid, al, bot⟩ = if ¬ Reg.inGrid ⟨nm, top, hgt, lft, wid, al, bot⟩ then 2 else if al < 1 ∨ 3 < al then 3 else 0) := by
    show Reg.check _ = _
    unfold Reg.check
    rw [if_neg (by rw [hn]; simp)]
   have HI : Hid (Reg.inGrid ⟨nm, top, hgt, lft, wid, al, bot⟩ ↔ ((0 ≤ top ∧ top ≤ 14) ∧ (1 ≤ hgt ∧ hgt ≤ 15 - top) ∧ (0 ≤ lft ∧ lft ≤ 31) ∧ (1 ≤ wid ∧ wid ≤ 32 - lft))) := Iff.rfl
   clear hn
   by_cases h1 : 0 ≤ top ∧ top ≤ 14
   · by_cases h2 : 1 ≤ hgt ∧ hgt ≤ 15 - top
     · by_cases h3 : 0 ≤ lft ∧ lft ≤ 31
       · by_cases h4 : 1 ≤ wid ∧ wid ≤ 32 - lft
         · by_cases h5 : al < 1
           · go_enter Tryz.func77, Tryz.ntmps77
             go_wp2_with fail
             refine (Name_any nm _ hs).mono ?_
             rintro e w1 ⟨rfl, rfl⟩
             rw [HN.out]
             go_wp2_with (first | (go_at_call 113; refine (from_yes _ _ _ _ (by omega)).mono ?_; rintro e w' ⟨rfl, rfl⟩) | (go_at_call 113; refine (from_no _ _ _ _ (by omega)).mono ?_; rintro e w' ⟨rfl, rfl⟩))
             go_ret
             exact ⟨ret_int (by rw [HC.out, if_neg (by rw [HI.out]; omega), if_pos (by omega)]), (Ext.refl w).alloc _⟩
           · by_cases h6 : 3 < al
             · go_enter Tryz.func77, Tryz.ntmps77
               go_wp2_with fail
               refine (Name_any nm _ hs).mono ?_
               rintro e w1 ⟨rfl, rfl⟩
               rw [HN.out]
               go_wp2_with (first | (go_at_call 113; refine (from_yes _ _ _ _ (by omega)).mono ?_; rintro e w' ⟨rfl, rfl⟩) | (go_at_call 113; refine (from_no _ _ _ _ (by omega)).mono ?_; rintro e w' ⟨rfl, rfl⟩))
               go_ret
               exact ⟨ret_int (by rw [HC.out, if_neg (by rw [HI.out]; omega), if_pos (by omega)]), (Ext.refl w).alloc _⟩
             · go_enter Tryz.func77, Tryz.ntmps77
               go_wp2_with fail
               refine (Name_any nm _ hs).mono ?_
               rintro e w1 ⟨rfl, rfl⟩
               rw [HN.out]
               go_wp2_with (first | (go_at_call 113; refine (from_yes _ _ _ _ (by omega)).mono ?_; rintro e w' ⟨rfl, rfl⟩) | (go_at_call 113; refine (from_no _ _ _ _ (by omega)).mono ?_; rintro e w' ⟨rfl, rfl⟩))
               go_ret
               exact ⟨ret_int (by rw [HC.out, if_neg (by rw [HI.out]; omega), if_neg (by omega)]), (Ext.refl w).alloc _⟩
         · go_enter Tryz.func77, Tryz.ntmps77
           go_wp2_with fail
           refine (Name_any nm _ hs).mono ?_
           rintro e w1 ⟨rfl, rfl⟩
           rw [HN.out]
           go_wp2_with (first | (go_at_call 113; refine (from_yes _ _ _ _ (by omega)).mono ?_; rintro e w' ⟨rfl, rfl⟩) | (go_at_call 113; refine (from_no _ _ _ _ (by omega)).mono ?_; rintro e w' ⟨rfl, rfl⟩))
           go_ret
           exact ⟨ret_int (by rw [HC.out, if_pos (by rw [HI.out]; omega)]), (Ext.refl w).alloc _⟩
       · go_enter Tryz.func77, Tryz.ntmps77
         go_wp2_with fail
         refine (Name_any nm _ hs).mono ?_
         rintro e w1 ⟨rfl, rfl⟩
         rw [HN.out]
         go_wp2_with (first | (go_at_call 113; refine (from_yes _ _ _ _ (by omega)).mono ?_; rintro e w' ⟨rfl, rfl⟩) | (go_at_call 113; refine (from_no _ _ _ _ (by omega)).mono ?_; rintro e w' ⟨rfl, rfl⟩))
         go_ret
         exact ⟨ret_int (by rw [HC.out, if_pos (by rw [HI.out]; omega)]), (Ext.refl w).alloc _⟩
     · go_enter Tryz.func77, Tryz.ntmps77
       go_wp2_with fail
       refine (Name_any nm _ hs).mono ?_
       rintro e w1 ⟨rfl, rfl⟩
       rw [HN.out]
       go_wp2_with (first | (go_at_call 113; refine (from_yes _ _ _ _ (by omega)).mono ?_; rintro e w' ⟨rfl, rfl⟩) | (go_at_call 113; refine (from_no _ _ _ _ (by omega)).mono ?_; rintro e w' ⟨rfl, rfl⟩))
       go_ret
       exact ⟨ret_int (by rw [HC.out, if_pos (by rw [HI.out]; omega)]), (Ext.refl w).alloc _⟩
   · go_enter Tryz.func77, Tryz.ntmps77
     go_wp2_with fail
     refine (Name_any nm _ hs).mono ?_
     rintro e w1 ⟨rfl, rfl⟩
     rw [HN.out]
     go_wp2_with (first | (go_at_call 113; refine (from_yes _ _ _ _ (by omega)).mono ?_; rintro e w' ⟨rfl, rfl⟩) | (go_at_call 113; refine (from_no _ _ _ _ (by omega)).mono ?_; rintro e w' ⟨rfl, rfl⟩))
     go_ret
     exact ⟨ret_int (by rw [HC.out, if_pos (by rw [HI.out]; omega)]), (Ext.refl w).alloc _⟩
end
section
open Go.RowKit
theorem toList_inj (a b : ByteArray) : (a.toList = b.toList) = (a = b) := by
 rw [ByteArray.toList_eq, ByteArray.toList_eq]
 obtain ⟨⟨x⟩⟩ := a
 obtain ⟨⟨y⟩⟩ := b
 simp
theorem eql_reg (a b : Reg) (w : World) : (binOp .eql 53 a.val b.val).run Tryz.prog w = .ok (.bool (decide (a = b))) w := by
 obtain ⟨nm, top, hgt, lft, wid, al, bot⟩ := a
 obtain ⟨nm', top', hgt', lft', wid', al', bot'⟩ := b
 unfold Reg.val
 dsimp only
 go_simp
 simp only [toList_inj]
 repeat' split
 all_goals simp_all
theorem eql_reg_yes (a : Reg) (w : World) : (binOp .eql 53 a.val a.val).run Tryz.prog w = .ok (.bool true) w := by rw [eql_reg, decide_eq_true rfl]
theorem eql_reg_no {a b : Reg} (h : ¬ a = b) (w : World) : (binOp .eql 53 a.val b.val).run Tryz.prog w = .ok (.bool false) w := by rw [eql_reg, decide_eq_false h]
end
section
open Go.RowKit
theorem SValid_any (c : Int) (i u : Bool) (w : World) : Calls Tryz.prog 145 #[.agg #[.int .u8 c, .bool i, .bool u]] w fun e w' => e = .returned (.bool (decide (c ≤ 6))) ∧ Ext w w' := by
 go_enter Tryz.func145, Tryz.ntmps145
 go_wp2
 go_ret
 exact ⟨rfl, (Ext.refl w).alloc _⟩
def Run.plainStyle (a b : Run) : Prop := a.color = b.color ∧ a.italic = b.italic ∧ a.under = b.under
instance (a b : Run) : Decidable (Run.plainStyle a b) := by unfold Run.plainStyle; infer_instance
def alikeB (a b : Run) : Bool := decide (Run.plainStyle a b) && decide (a.ruby.toList = []) && decide (b.ruby.toList = [])
theorem eql_style (c c' : Int) (i i' u u' : Bool) (w : World) : (binOp .eql 81 (.agg #[.int .u8 c, .bool i, .bool u]) (.agg #[.int .u8 c', .bool i', .bool u'])).run Tryz.prog w = .ok (.bool (decide (c = c' ∧ i = i' ∧ u = u'))) w := by
 go_simp
 repeat' split
 all_goals simp_all
set_option maxHeartbeats 1000000 in
theorem alike_any (a b : Run) (w : World) : Calls Tryz.prog 146 #[a.val, b.val] w fun e w' => e = .returned (.bool (alikeB a b)) ∧ Ext w w' := by
 obtain ⟨t1, c1, i1, u1, r1⟩ := a
 obtain ⟨t2, c2, i2, u2, r2⟩ := b
 unfold Run.val
 dsimp only
 have hx : Ext w ((w.alloc (.cells #[.string t1, .int .u8 c1, .bool i1, .bool u1, .string r1] 83)).alloc (.cells #[.string t2, .int .u8 c2, .bool i2, .bool u2, .string r2] 83)) := ((Ext.refl w).alloc _).alloc _
 have HX := Lib.hid hx
 clear hx
 by_cases hs : c1 = c2 ∧ i1 = i2 ∧ u1 = u2
 · have hq : ∀ w, (binOp .eql 81 (.agg #[.int .u8 c1, .bool i1, .bool u1]) (.agg #[.int .u8 c2, .bool i2, .bool u2])).run Tryz.prog w = .ok (.bool true) w := fun w => by rw [eql_style, decide_eq_true hs]
   have HS := Lib.hid hs
   clear hs
   cases h1 : r1.toList.isEmpty
   · have HF : Hid (alikeB ⟨t1, c1, i1, u1, r1⟩ ⟨t2, c2, i2, u2, r2⟩ = false) := by show alikeB _ _ = false; unfold alikeB; cases hr : r1.toList <;> simp_all
     go_enter Tryz.func146, Tryz.ntmps146
     go_wp2
     go_ret
     exact ⟨by rw [HF.out]; rfl, HX.out⟩
   · cases h2 : r2.toList.isEmpty
     · have HF : Hid (alikeB ⟨t1, c1, i1, u1, r1⟩ ⟨t2, c2, i2, u2, r2⟩ = false) := by show alikeB _ _ = false; unfold alikeB; cases hr : r2.toList <;> simp_all
       go_enter Tryz.func146, Tryz.ntmps146
       go_wp2
       go_ret
       exact ⟨by rw [HF.out]; rfl, HX.out⟩
     · have HF : Hid (alikeB ⟨t1, c1, i1, u1, r1⟩ ⟨t2, c2, i2, u2, r2⟩ = true) := by
        show alikeB _ _ = true
        unfold alikeB Run.plainStyle
        have := HS.out
        simp_all
       go_enter Tryz.func146, Tryz.ntmps146
       go_wp2
       go_ret
       exact ⟨by rw [HF.out]; rfl, HX.out⟩
 · have hq : ∀ w, (binOp .eql 81 (.agg #[.int .u8 c1, .bool i1, .bool u1]) (.agg #[.int .u8 c2, .bool i2, .bool u2])).run Tryz.prog w = .ok (.bool false) w := fun w => by rw [eql_style, decide_eq_false hs]
   have HF : Hid (alikeB ⟨t1, c1, i1, u1, r1⟩ ⟨t2, c2, i2, u2, r2⟩ = false) := by show alikeB _ _ = false; unfold alikeB Run.plainStyle; rw [decide_eq_false hs]; rfl
   clear hs
   go_enter Tryz.func146, Tryz.ntmps146
   go_wp2
   go_ret
   exact ⟨by rw [HF.out]; rfl, HX.out⟩
def rowBytes (l : Row) : Nat := (l.map fun r => r.text.size).sum
def rowLen : Row → Int
 | [] => 0
 | r :: l => if clen r.text < 0 then -1 else if rowLen l < 0 then -1 else clen r.text + rowLen l
theorem rowBytes_cons (r : Run) (l : Row) : rowBytes (r :: l) = r.text.size + rowBytes l := by simp [rowBytes]
theorem rowBytes_drop (l : Row) (k : Nat) (r : Run) (h : l[k]? = some r) : rowBytes (l.take (k + 1)) = rowBytes (l.take k) + r.text.size := by
 have hkl := (List.getElem?_eq_some_iff.1 h).1
 rw [List.take_succ_eq_append_getElem hkl, (List.getElem?_eq_some_iff.1 h).2]
 simp [rowBytes]
theorem rowBytes_take_le (l : Row) (k : Nat) : rowBytes (l.take k) ≤ rowBytes l := by
 have h : rowBytes l = rowBytes (l.take k) + rowBytes (l.drop k) := by
  have e := List.take_append_drop k l
  have : rowBytes (l.take k ++ l.drop k) = rowBytes (l.take k) + rowBytes (l.drop k) := by simp only [rowBytes, List.map_append, List.sum_append]
  rw [← this, e]
 omega
theorem clen_le (s : ByteArray) : clen s ≤ s.size := by
 unfold clen
 split
 · have := Lib.runeCount_le s; omega
 · omega
theorem clen_ge (s : ByteArray) : -1 ≤ clen s := by
 unfold clen
 split <;> omega
def LenRel (w : World) (n : Nat) (l : Row) (v i : Value) (wr : World) : Prop :=
 ∃ (k : Nat) (s : Int), k ≤ n ∧ i = .int .i64 k ∧ v = .int .i64 s ∧ 0 ≤ s ∧ s ≤ rowBytes (l.take k) ∧ Ext w wr ∧ rowLen l = if rowLen (l.drop k) < 0 then -1 else s + rowLen (l.drop k)
theorem rowLen_ge : ∀ l : Row, -1 ≤ rowLen l
 | [] => by simp [rowLen]
 | r :: l => by
  have := rowLen_ge l
  have := clen_ge r.text
  unfold rowLen
  split
  · omega
  · split <;> omega
theorem rowLen_step (s : Int) (r : Run) (l : Row) (h : ¬ clen r.text < 0) : (if rowLen (r :: l) < 0 then -1 else s + rowLen (r :: l)) = if rowLen l < 0 then -1 else s + clen r.text + rowLen l := by
 rw [rowLen, if_neg h]
 by_cases h9 : rowLen l < 0
 · simp [h9]
 · rw [if_neg h9, if_neg h9, if_neg (by omega)]
   omega
set_option maxHeartbeats 1000000 in
theorem SLen_any (A : Option Addr) (n c : Nat) (l : Row) (w : World) (hE : Env w) (hl : RunsAt w A n l) (hb : rowBytes l ≤ 4611686018427387904) (hn : n ≤ 4611686018427387904) :
 Calls Tryz.prog 117 #[.agg #[.slice A n c]] w fun e w' => e = .returned (.int .i64 (rowLen l)) ∧ Ext w w' := by
 have HL := Lib.hid hl
 have HLn := Lib.hid hl.len
 clear hl
 have HEn := Lib.hid hE
 clear hE
 go_enter Tryz.func117, Tryz.ntmps117
 go_wp2_with fail
 go_loopw [3, 10] (fun v i wr => LenRel w n l v i wr) (fun _ i _ => n - (intOf i).toNat)
 case atStart =>
  refine ⟨0, 0, Nat.zero_le _, rfl, rfl, by omega, by simp, (Ext.refl w).alloc _, ?_⟩
  have := rowLen_ge l
  simp only [List.drop_zero]
  split <;> omega
 case round =>
  obtain ⟨k, s, hk, rfl, rfl, hs0, hs1, hx, hp⟩ := hrel
  have HP := Lib.hid hp
  clear hp
  by_cases hlt : k < n
  · obtain ⟨b, off, r, rfl, hr, hC⟩ := (HL.out.ext hx).at_ hlt
    obtain ⟨c0, c1, c2, c3, c4⟩ := hC
    have HD := Lib.hid (drop_at l k r hr)
    have hbt := rowBytes_drop l k r hr
    have hble := rowBytes_take_le l (k + 1)
    have hsz : (r.text.size : Int) ≤ 4611686018427387904 := by omega
    have hs2 : s + r.text.size ≤ 4611686018427387904 := by omega
    have hs3 : Hid (s + (r.text.size : Int) ≤ (rowBytes (l.take (k + 1)) : Int)) := by show s + (r.text.size : Int) ≤ _; omega
    clear hbt hble hr
    have hcl := clen_le r.text
    have hcg := clen_ge r.text
    have hcl2 : s + clen r.text ≤ 4611686018427387904 := by omega
    go_wp2_with fail
    refine (CLen_any r.text _ (HEn.out.ext (hx.alloc _)) (by omega)).mono ?_
    rintro e w2 ⟨rfl, hx2⟩
    by_cases hneg : clen r.text < 0
    · go_wp2_with fail
      go_ret
      refine ⟨ret_int ?_, (hx.alloc _).trans hx2⟩
      rw [HP.out, HD.out, rowLen, if_pos (by omega)]
    · go_wp2_with fail
      refine ⟨⟨k + 1, s + clen r.text, by omega, by go_num, rfl, by omega, ?_, (hx.alloc _).trans hx2, ?_⟩, by simp [intOf]; omega⟩
      · have := hs3.out; omega
      · rw [HP.out, HD.out]
        exact rowLen_step s r (l.drop (k + 1)) (by omega)
  · have HD : Hid (l.drop k = []) := List.drop_eq_nil_of_le (by rw [HLn.out]; omega)
    go_wp2_with fail
    go_ret
    exact ⟨ret_int (by rw [HP.out, HD.out]; simp [rowLen]), hx⟩
end
section
open Go.RowKit
def rowText (l : Row) : List UInt8 := l.flatMap fun r => r.text.data.toList
theorem rowText_len (l : Row) : (rowText l).length = rowBytes l := by
 unfold rowText rowBytes
 induction l with
 | nil => rfl
 | cons r l ih => simp [List.flatMap_cons, ih]
def PlainRel (w : World) (bx : Array Value) (n : Nat) (l : Row) (i : Value) (wr : World) : Prop :=
 ∃ k : Nat, k ≤ n ∧ i = .int .i64 k ∧ Ext (w.alloc (.cells bx 78)) wr ∧ Lib.IsBuilder 92 5 (w.heap.size + 1) (w.heap.size + 1) (Lib.byteCells (rowText (l.take k))) wr
theorem byteCells_append (a b : List UInt8) : Lib.byteCells (a ++ b) = Lib.byteCells a ++ Lib.byteCells b := by simp [Lib.byteCells]
theorem rowText_snoc (l : Row) (k : Nat) (r : Run) (h : l[k]? = some r) : rowText (l.take (k + 1)) = rowText (l.take k) ++ r.text.data.toList := by
 have hkl := (List.getElem?_eq_some_iff.1 h).1
 rw [List.take_succ_eq_append_getElem hkl, (List.getElem?_eq_some_iff.1 h).2]
 simp [rowText]
theorem isBuilder_alloc {T e : TypeId} {B b : Nat} {bs : List Value} {w : World} (h : Lib.IsBuilder T e B b bs w) (o : Obj) : Lib.IsBuilder T e B b bs (w.alloc o) := by
 have key : ∀ p, Lib.BuilderAt T e B b p bs w → Lib.BuilderAt T e B b p bs (w.alloc o) := fun p ⟨hB, v, hb, hown, hne⟩ =>
  ⟨hB, v, (Below.heap_alloc w o b (Array.getElem?_eq_some_iff.1 hb).1).trans hb, hown.alloc o, hne⟩
 exact h.elim (fun x => .inl (key _ x)) (fun x => .inr (key _ x))
set_option maxHeartbeats 1000000 in
theorem Plain_any (A : Option Addr) (n c : Nat) (l : Row) (w : World) (hl : RunsAt w A n l) (hb : rowBytes l ≤ 140737488355328) (hn : n ≤ 4611686018427387904) :
 Calls Tryz.prog 116 #[.agg #[.slice A n c]] w fun e w' => e = .returned (.string ⟨(rowText l).toArray⟩) ∧ Ext w w' := by
 have HL := Lib.hid hl
 have HLn := Lib.hid hl.len
 clear hl
 go_enter Tryz.func116, Tryz.ntmps116
 go_wp2_with fail
 go_loopw [9] (fun i wr => PlainRel w #[.slice A n c] n l i wr) (fun i _ => n - (intOf i).toNat)
 case atStart =>
  refine ⟨0, Nat.zero_le _, rfl, (Ext.refl _).alloc _, .inl ⟨Nat.le_refl _, .slice none 0 0, ?_, ⟨rfl, .inl ⟨rfl, rfl⟩⟩, by simp [Value.ownBlock]⟩⟩
  exact Blk.new' (w := w.alloc _) (by simp)
 case round =>
  obtain ⟨k, hk, rfl, hx, hbd⟩ := hrel
  have hxw : Ext w wr := ((Ext.refl w).alloc _).trans hx
  have HB := Lib.hid hbd
  clear hbd
  have hsz := hx.size
  simp only [World.size_alloc] at hsz
  by_cases hlt : k < n
  · obtain ⟨b, off, r, rfl, hr, hC⟩ := (HL.out.ext hxw).at_ hlt
    obtain ⟨c0, c1, c2, c3, c4⟩ := hC
    have HT := Lib.hid (rowText_snoc l k r hr)
    have hbt := rowBytes_drop l k r hr
    have hble := rowBytes_take_le l (k + 1)
    have hlen : Hid ((Lib.byteCells (rowText (l.take k))).length + r.text.size ≤ 140737488355328) := by
     show (Lib.byteCells (rowText (l.take k))).length + r.text.size ≤ _
     rw [Lib.byteCells_length, rowText_len]; omega
    clear hbt hble hr
    go_wp2_with fail
    refine (WriteString_any (w.heap.size + 1) _ _ _ _ (isBuilder_alloc HB.out _) hlen.out (by simp; omega)).mono ?_
    rintro e w2 ⟨rfl, hb2, hx2⟩
    go_wp2_with fail
    refine ⟨⟨k + 1, by omega, by go_num, ?_, ?_⟩, by simp [intOf]; omega⟩
    · exact (hx.alloc _).below hx2 (by simp)
    · rw [HT.out, byteCells_append]
      exact .inr hb2
  · have HT : Hid (l.take k = l) := List.take_of_length_le (by rw [HLn.out]; omega)
    go_wp2_with fail
    refine (Tryz.Builder_String_any (w.heap.size + 1) _ _ _ HB.out (by omega)).mono ?_
    rintro e w2 ⟨rfl, hx2⟩
    go_wp2_with fail
    go_ret
    exact ⟨by rw [HT.out]; rfl, hxw.below hx2 (by omega)⟩
end
section
open Go.RowKit
def runErr (p : Option Run) (x : Run) : Int :=
 if vld x.text = false then 10 else if x.text.toList = [] then 4 else if ¬ x.color ≤ 6 then 12 else if vld x.ruby = false then 10 else if (p.any fun q => alikeB q x) = true then 8 else 0
def runsErr : Option Run → Row → Int
 | _, [] => 0
 | p, x :: l => if runErr p x = 0 then runsErr (some x) l else runErr p x
def rowErr (l : Row) : Int := if 16 < l.length then 9 else runsErr none l
theorem runErr_text {p : Option Run} {x : Run} (h : vld x.text = false) : runErr p x = 10 := by unfold runErr; rw [if_pos h]
theorem runErr_empty {p : Option Run} {x : Run} (h : vld x.text = true) (he : x.text.toList.isEmpty = true) : runErr p x = 4 := by
 unfold runErr; rw [if_neg (by rw [h]; simp), if_pos (by simpa using he)]
theorem runErr_color {p : Option Run} {x : Run} (h : vld x.text = true) (he : x.text.toList.isEmpty = false) (hc : ¬ x.color ≤ 6) : runErr p x = 12 := by
 unfold runErr; rw [if_neg (by rw [h]; simp), if_neg (by intro hh; rw [hh] at he; simp at he), if_pos hc]
theorem runErr_ruby {p : Option Run} {x : Run} (h : vld x.text = true) (he : x.text.toList.isEmpty = false) (hc : x.color ≤ 6) (hr : vld x.ruby = false) : runErr p x = 10 := by
 unfold runErr; rw [if_neg (by rw [h]; simp), if_neg (by intro hh; rw [hh] at he; simp at he), if_neg (by omega), if_pos hr]
theorem runErr_last {p : Option Run} {x : Run} (h : vld x.text = true) (he : x.text.toList.isEmpty = false) (hc : x.color ≤ 6) (hr : vld x.ruby = true) : runErr p x = if (p.any fun q => alikeB q x) = true then 8 else 0 := by
 unfold runErr; rw [if_neg (by rw [h]; simp), if_neg (by intro hh; rw [hh] at he; simp at he), if_neg (by omega), if_neg (by rw [hr]; simp)]
def ahead (l : Row) (k : Nat) : Option Run := if k = 0 then none else l[k - 1]?
theorem ahead_succ (l : Row) (k : Nat) (r : Run) (h : l[k]? = some r) : ahead l (k + 1) = some r := by unfold ahead; rw [if_neg (by omega)]; simpa using h
def CheckRel (w : World) (bx : Array Value) (n : Nat) (l : Row) (i : Value) (wr : World) : Prop :=
 ∃ k : Nat, k ≤ n ∧ i = .int .i64 k ∧ Ext (w.alloc (.cells bx 78)) wr ∧ runsErr none l = runsErr (ahead l k) (l.drop k)
set_option maxRecDepth 100000 in
set_option maxHeartbeats 2000000 in
theorem SCheck_any (A : Option Addr) (n c : Nat) (l : Row) (w : World) (hE : Env w) (hl : RunsAt w A n l) (hb : ∀ r ∈ l, r.text.size ≤ 4611686018427387904 ∧ r.ruby.size ≤ 4611686018427387904) (hn : n ≤ 4611686018427387904) :
 Calls Tryz.prog 115 #[.agg #[.slice A n c]] w fun e w' => e = .returned (.int .i64 (rowErr l)) ∧ Ext w w' := by
 have HL := Lib.hid hl
 have HLn := Lib.hid hl.len
 have HEn := Lib.hid hE
 have HBd := Lib.hid hb
 clear hl hE hb
 by_cases h16 : 16 < n
 · have HF : Hid (rowErr l = 9) := by show rowErr l = 9; unfold rowErr; rw [if_pos (by rw [HLn.out]; exact h16)]
   have h16' : (16 : Int) < (n : Int) := by omega
   go_enter Tryz.func115, Tryz.ntmps115
   go_wp2_with fail
   go_ret
   exact ⟨ret_int HF.out.symm, (Ext.refl w).alloc _⟩
 · have HF : Hid (rowErr l = runsErr none l) := by show rowErr l = _; unfold rowErr; rw [if_neg (by rw [HLn.out]; exact h16)]
   have h16' : (n : Int) ≤ 16 := by omega
   clear h16
   go_enter Tryz.func115, Tryz.ntmps115
   go_wp2_with fail
   go_loopw [12] (fun i wr => CheckRel w #[.slice A n c] n l i wr) (fun i _ => n - (intOf i).toNat)
   case atStart => exact ⟨0, Nat.zero_le _, rfl, Ext.refl _, rfl⟩
   case round =>
    obtain ⟨k, hk, rfl, hx, hp⟩ := hrel
    have HP := Lib.hid hp
    clear hp
    have hxw : Ext w wr := ((Ext.refl w).alloc _).trans hx
    by_cases hlt : k < n
    · have HB0 := Lib.hid (Blk.ext (Blk.new w _ _) hx)
      obtain ⟨b, off, r, rfl, hr, hC⟩ := (HL.out.ext hxw).at_ hlt
      obtain ⟨c0, c1, c2, c3, c4⟩ := hC
      have HD := Lib.hid (drop_at l k r hr)
      have HA := Lib.hid (ahead_succ l k r hr)
      have hbd := HBd.out r (List.mem_of_getElem? hr)
      obtain ⟨hb1, hb2⟩ := hbd
      have HR := Lib.hid hr
      clear hr
      have HPs : Hid (runsErr none l = if runErr (ahead l k) r = 0 then runsErr (ahead l (k + 1)) (l.drop (k + 1)) else runErr (ahead l k) r) := by
       show _ = _
       rw [HP.out, HD.out, HA.out]
       rfl
      clear HP HD HA
      have hblt : w.heap.size < wr.heap.size := HB0.out.lt
      have hbne : w.heap.size ≠ wr.heap.size := by omega
      go_wp2_with fail
      refine (Valid_any r.text _ (HEn.out.ext (hxw.alloc _)) (by omega)).mono ?_
      rintro e w2 ⟨rfl, hx2⟩
      have HB2 := Lib.hid (Blk.ext (Blk.new wr _ _) hx2)
      have hxw2 : Ext w w2 := (hxw.alloc _).trans hx2
      cases hv : vld r.text
      · have HV := Lib.hid hv
        clear hv
        go_wp2_with fail
        go_ret
        refine ⟨ret_int ?_, hxw2⟩
        rw [HF.out, HPs.out, runErr_text HV.out]
        rfl
      · have HV := Lib.hid hv
        clear hv
        have hc2 := fun o => HB2.out.cell o
        cases he : r.text.toList.isEmpty
        · by_cases hcol : r.color ≤ 6
          · go_wp2_with fail
            refine (SValid_any _ _ _ _).mono ?_
            rintro e w3 ⟨rfl, hx3⟩
            have HB3 := Lib.hid (HB2.out.ext hx3)
            clear hc2
            have hc3 := fun o => HB3.out.cell o
            go_wp2_with fail
            refine (Valid_any r.ruby _ (HEn.out.ext (hxw2.trans hx3)) (by omega)).mono ?_
            rintro e w4 ⟨rfl, hx4⟩
            have HB4 := Lib.hid (HB3.out.ext hx4)
            have hxw4 : Ext w w4 := (hxw2.trans hx3).trans hx4
            clear hc3
            cases hvr : vld r.ruby
            · have HVr := Lib.hid hvr
              clear hvr
              go_wp2_with fail
              go_ret
              refine ⟨ret_int ?_, hxw4⟩
              rw [HF.out, HPs.out, runErr_ruby HV.out he hcol HVr.out]
              rfl
            · have HVr := Lib.hid hvr
              clear hvr
              have HE2 := Lib.hid (runErr_last (p := ahead l k) HV.out he hcol HVr.out)
              by_cases hk0 : k = 0
              · subst hk0
                have HAl : Hid (runErr (ahead l 0) r = 0) := by show _ = _; rw [HE2.out]; rfl
                have HPt : Hid (runsErr none l = runsErr (ahead l (0 + 1)) (l.drop (0 + 1))) := by show _ = _; rw [HPs.out, if_pos HAl.out]
                go_wp2_with fail
                go_quiet (fail)
                go_wp2_with fail
                exact ⟨⟨0 + 1, by omega, by go_num, ((hx.alloc _).trans ((hx2.trans hx3).trans hx4)).drewN _, HPt.out⟩, by simp [intOf]; omega⟩
              · obtain ⟨m, rfl⟩ : ∃ m, k = m + 1 := ⟨k - 1, by omega⟩
                obtain ⟨q, hq⟩ : ∃ q, l[m]? = some q := by
                 have : m < l.length := by rw [HLn.out]; omega
                 exact ⟨_, List.getElem?_eq_getElem this⟩
                have HAh : Hid (ahead l (m + 1) = some q) := by show _ = _; unfold ahead; rw [if_neg hk0]; exact hq
                obtain ⟨b', off', q', hA', hq', hC'⟩ := (HL.out.ext hxw4).at_ (i := m) (by omega)
                cases hA'
                rw [hq] at hq'
                cases hq'
                obtain ⟨d0, d1, d2, d3, d4⟩ := hC'
                have HQ := Lib.hid hq
                clear hq hk0
                have hm0 : (0 : Int) ≤ (m : Int) := by omega
                have hm1 : (m : Int) < (n : Int) := by omega
                have hm2 : (0 : Int) < (m : Int) + 1 := by omega
                have hm3 : m < n := by omega
                have e1 : IntKind.i64.wrap (m : Int) = (m : Int) := IntWalk.i64_in _ (by omega)
                have hc4 := fun o => HB4.out.cell o
                have HB04 := Lib.hid (HB0.out.ext (((Ext.refl wr).alloc _).trans ((hx2.trans hx3).trans hx4)))
                have hc0 := fun o => HB04.out.cell o
                have HAL := Lib.hid (fun w => alike_any q r w)
                unfold Run.val at HAL
                have z0 : w4.cell? ⟨w.heap.size, 0, none⟩ = some (.slice (some ⟨b, off, none⟩) n c) := hc0 0
                have z1 : w4.cell? ⟨wr.heap.size, 0, none⟩ = some (.string r.text) := hc4 0
                have z2 : w4.cell? ⟨wr.heap.size, 1, none⟩ = some (.int .u8 r.color) := hc4 1
                have z3 : w4.cell? ⟨wr.heap.size, 2, none⟩ = some (.bool r.italic) := hc4 2
                have z4 : w4.cell? ⟨wr.heap.size, 3, none⟩ = some (.bool r.under) := hc4 3
                have z5 : w4.cell? ⟨wr.heap.size, 4, none⟩ = some (.string r.ruby) := hc4 4
                clear hc0 hc4 c0 c1 c2 c3 c4
                go_wp2_with fail
                go_region_held3 (fun w' => w'.cell? ⟨w.heap.size, 0, none⟩ = some (.slice (some ⟨b, off, none⟩) n c) ∧ w'.cell? ⟨wr.heap.size, 0, none⟩ = some (.string r.text) ∧ w'.cell? ⟨wr.heap.size, 1, none⟩ = some (.int .u8 r.color) ∧ w'.cell? ⟨wr.heap.size, 2, none⟩ = some (.bool r.italic) ∧ w'.cell? ⟨wr.heap.size, 3, none⟩ = some (.bool r.under) ∧ w'.cell? ⟨wr.heap.size, 4, none⟩ = some (.string r.ruby) ∧
                 w'.cell? ⟨b, off + m * 5, none⟩ = some (.string q.text) ∧ w'.cell? ⟨b, off + m * 5 + 1, none⟩ = some (.int .u8 q.color) ∧ w'.cell? ⟨b, off + m * 5 + 2, none⟩ = some (.bool q.italic) ∧ w'.cell? ⟨b, off + m * 5 + 3, none⟩ = some (.bool q.under) ∧ w'.cell? ⟨b, off + m * 5 + 4, none⟩ = some (.string q.ruby))
                 (first | go_keep | (go_split_ands; refine ⟨?_, ?_, ?_, ?_, ?_, ?_, ?_, ?_, ?_, ?_, ?_⟩ <;> (apply hx5.cell; assumption)))
                 (first | (go_at_call 146; refine (HAL.out _).mono ?_; rintro e w5 ⟨rfl, hx5⟩))
                have hxa : Ext (w.alloc (.cells #[.slice (some ⟨b, off, none⟩) n c] 78)) w5 := ((((hx.alloc _).trans ((hx2.trans hx3).trans hx4)).drew)).trans hx5
                have hxw5 : Ext w w5 := ((Ext.refl w).alloc _).trans hxa
                clear e1
                cases hal : alikeB q r
                · have HAl : Hid (runErr (ahead l (m + 1)) r = 0) := by show _ = _; rw [HE2.out, HAh.out, Option.any_some, hal]; rfl
                  have HPt : Hid (runsErr none l = runsErr (ahead l (m + 1 + 1)) (l.drop (m + 1 + 1))) := by show _ = _; rw [HPs.out, if_pos HAl.out]
                  clear hal
                  go_wp2_with fail
                  exact ⟨⟨m + 1 + 1, by omega, by go_num, hxa, HPt.out⟩, by simp [intOf]; omega⟩
                · have HAl : Hid (runErr (ahead l (m + 1)) r = 8) := by show _ = _; rw [HE2.out, HAh.out, Option.any_some, hal]; rfl
                  clear hal
                  go_wp2_with fail
                  go_ret
                  exact ⟨ret_int (by rw [HF.out, HPs.out, HAl.out]; rfl), hxw5⟩
          · have HC := Lib.hid hcol
            have hd : decide (r.color ≤ 6) = false := decide_eq_false hcol
            clear hcol
            go_wp2_with fail
            refine (SValid_any _ _ _ _).mono ?_
            rintro e w3 ⟨rfl, hx3⟩
            go_wp2_with fail
            go_ret
            refine ⟨ret_int ?_, hxw2.trans hx3⟩
            rw [HF.out, HPs.out, runErr_color HV.out he (by have := HC.out; omega)]
            rfl
        · go_wp2_with fail
          go_ret
          refine ⟨ret_int ?_, hxw2⟩
          rw [HF.out, HPs.out, runErr_empty HV.out he]
          rfl
    · have HD : Hid (l.drop k = []) := List.drop_eq_nil_of_le (by rw [HLn.out]; omega)
      go_wp2_with fail
      go_ret
      exact ⟨ret_int (by rw [HF.out, HP.out, HD.out]; rfl), hxw⟩
end
section
open Go.RowKit
def badS (s : ByteArray) : Bool := s.toList.isEmpty || decide (s.data.toList.head? = some 32) || decide (s.data.toList.getLast? = some 32) || Lib.contains s.data.toList [32, 32]
def textOf (l : Row) : ByteArray := ⟨(rowText l).toArray⟩
def rowErrE (l : Row) : Int := if rowErr l ≠ 0 then rowErr l else if badS (textOf l) = true then 4 else if 32 < rowLen l then 11 else 0
theorem Contains_any (s : ByteArray) (w : World) (hE : Env w) (hs : s.size < 4294967281) :
 Calls Tryz.prog 102 #[.string s, .string ⟨#[32, 32]⟩] w fun e w' => e = .returned (.bool (Lib.contains s.data.toList [32, 32])) ∧ w = w' := by
 obtain ⟨m, hm⟩ := hE.2
 exact (Tryz.strings_Contains s ⟨#[32, 32]⟩ m w hs hm).mono fun _ _ ⟨a, b⟩ => ⟨a, b.symm⟩
theorem head_eq (s : ByteArray) (h : 0 < s.size) : (s.data.toList.head? = some 32) ↔ ((s[0].toNat : Int) == 32) = true := by
 have e := take_snoc s 0 h
 simp only [Nat.zero_add, List.take_zero, List.nil_append] at e
 have hh : s.data.toList.head? = some s[0] := by
  cases hl : s.data.toList with
  | nil => rw [hl] at e; simp at e
  | cons a l => rw [hl] at e; simp at e; simp [e]
 rw [hh]
 constructor
 · intro h1
   have h2 : s[0] = 32 := Option.some.inj h1
   rw [h2]; rfl
 · intro h1
   have h2 : (s[0].toNat : Int) = 32 := by simpa using h1
   congr 1
   apply UInt8.toNat_inj.1
   have : s[0].toNat = 32 := by omega
   rw [this]; rfl
theorem last_eq (s : ByteArray) (h : 0 < s.size) : (s.data.toList.getLast? = some 32) ↔ ((s[s.size - 1].toNat : Int) == 32) = true := by
 have hh : s.data.toList.getLast? = some s[s.size - 1] := by
  rw [List.getLast?_eq_getElem?]
  have hl : s.data.toList.length = s.size := by simp
  rw [hl, List.getElem?_eq_getElem (by rw [hl]; omega)]
  rfl
 rw [hh]
 constructor
 · intro h1
   have h2 : s[s.size - 1] = 32 := Option.some.inj h1
   rw [h2]; rfl
 · intro h1
   have h2 : (s[s.size - 1].toNat : Int) = 32 := by simpa using h1
   congr 1
   apply UInt8.toNat_inj.1
   have : s[s.size - 1].toNat = 32 := by omega
   rw [this]; rfl
set_option maxRecDepth 100000 in
set_option maxHeartbeats 2000000 in
theorem row_any (A : Option Addr) (n c : Nat) (l : Row) (w : World) (hE : Env w) (hl : RunsAt w A n l) (hb : ∀ r ∈ l, r.text.size ≤ 4611686018427387904 ∧ r.ruby.size ≤ 4611686018427387904) (hn : n ≤ 4611686018427387904) (hbt : rowBytes l < 4294967281) :
 Calls Tryz.prog 80 #[.agg #[.slice A n c]] w fun e w' => e = .returned (.int .i64 (rowErrE l)) ∧ Ext w w' := by
 have HL := Lib.hid hl
 have HEn := Lib.hid hE
 have HBd := Lib.hid hb
 clear hl hE hb
 have hsz : (textOf l).size = rowBytes l := by rw [← rowText_len]; rfl
 have HSz := Lib.hid hsz
 clear hsz
 by_cases h1 : rowErr l = 0
 · have HF : Hid (rowErrE l = if badS (textOf l) = true then 4 else if 32 < rowLen l then 11 else 0) := by show _ = _; unfold rowErrE; rw [if_neg (by simp [h1])]
   have h1b : (rowErr l != 0) = false := by simp [h1]
   have HR := Lib.hid h1
   clear h1
   go_enter Tryz.func80, Tryz.ntmps80
   go_wp2_with fail
   refine (SCheck_any A n c l _ (HEn.out.ext ((Ext.refl w).alloc _)) (HL.out.ext ((Ext.refl w).alloc _)) HBd.out hn).mono ?_
   rintro e w1 ⟨rfl, hx1⟩
   have HB1 := Lib.hid (Blk.ext (Blk.new w _ _) hx1)
   have hxw1 : Ext w w1 := ((Ext.refl w).alloc _).trans hx1
   have hc1 := HB1.out.cell 0
   simp at hc1
   go_wp2_with fail
   refine (Plain_any A n c l _ (HL.out.ext hxw1) (by omega) hn).mono ?_
   rintro e w2 ⟨rfl, hx2⟩
   have hxw2 : Ext w w2 := hxw1.trans hx2
   have HB2 := Lib.hid (HB1.out.ext hx2)
   clear hc1
   have hc2 := HB2.out.cell 0
   simp at hc2
   rw [show (⟨(rowText l).toArray⟩ : ByteArray) = textOf l from rfl]
   generalize hs : textOf l = s at *
   have HS := Lib.hid hs
   clear hs
   have hs9 : s.size < 4294967281 := by rw [HSz.out]; exact hbt
   by_cases e0 : s.toList.isEmpty = true
   · have HFb : Hid (badS s = true) := by show _ = _; unfold badS; rw [e0]; rfl
     go_wp2_with fail
     go_ret
     exact ⟨ret_int (by rw [HF.out, if_pos HFb.out]), hxw2⟩
   · have e0' : s.toList.isEmpty = false := by simpa using e0
     have hpos : 0 < s.size := by
      rcases Nat.eq_zero_or_pos s.size with h | h
      · exfalso
        apply e0
        have : s.toList = [] := by
         rw [ByteArray.toList_eq]
         exact List.eq_nil_of_length_eq_zero (by simpa using h)
        rw [this]; rfl
      · exact h
     clear e0
     by_cases e1 : ((s[0].toNat : Int) == 32) = true
     · have HFb : Hid (badS s = true) := by show _ = _; unfold badS; rw [decide_eq_true ((head_eq s hpos).2 e1)]; simp
       go_wp2_with fail
       go_ret
       exact ⟨ret_int (by rw [HF.out, if_pos HFb.out]), hxw2⟩
     · have e1' : ((s[0].toNat : Int) == 32) = false := by simpa using e1
       have hd1 := Lib.hid (decide_eq_false (p := s.data.toList.head? = some 32) (fun h => e1 ((head_eq s hpos).1 h)))
       clear e1
       have hz0 : (0 : Int) ≤ (s.size : Int) - 1 := by omega
       have hz1 : (s.size : Int) - 1 < (s.size : Int) := by omega
       by_cases e2 : ((s[s.size - 1].toNat : Int) == 32) = true
       · have HFb : Hid (badS s = true) := by show _ = _; unfold badS; rw [decide_eq_true ((last_eq s hpos).2 e2)]; simp
         go_wp2_with fail
         go_ret
         exact ⟨ret_int (by rw [HF.out, if_pos HFb.out]), hxw2⟩
       · have e2' : ((s[s.size - 1].toNat : Int) == 32) = false := by simpa using e2
         have hd2 := Lib.hid (decide_eq_false (p := s.data.toList.getLast? = some 32) (fun h => e2 ((last_eq s hpos).1 h)))
         clear e2
         have HFb : Hid (badS s = Lib.contains s.data.toList [32, 32]) := by show _ = _; unfold badS; rw [e0', hd1.out, hd2.out]; simp
         go_wp2_with fail
         refine (Contains_any s _ (HEn.out.ext hxw2) hs9).mono ?_
         rintro e w3 ⟨rfl, rfl⟩
         cases hct : Lib.contains s.data.toList [32, 32]
         · have HCt := Lib.hid hct
           clear hct
           go_wp2_with fail
           refine (SLen_any A n c l _ (HEn.out.ext hxw2) (HL.out.ext hxw2) (by omega) hn).mono ?_
           rintro e w4 ⟨rfl, hx4⟩
           by_cases hw : 32 < rowLen l
           · go_wp2_with fail
             go_ret
             exact ⟨ret_int (by rw [HF.out, HFb.out, HCt.out, if_neg (by simp), if_pos hw]), hxw2.trans hx4⟩
           · go_wp2_with fail
             go_ret
             exact ⟨ret_int (by rw [HF.out, HFb.out, HCt.out, if_neg (by simp), if_neg (by omega)]), hxw2.trans hx4⟩
         · have HCt := Lib.hid hct
           clear hct
           go_wp2_with fail
           go_ret
           exact ⟨ret_int (by rw [HF.out, HFb.out, HCt.out]; rfl), hxw2⟩
 · have HF : Hid (rowErrE l = rowErr l) := by show _ = _; unfold rowErrE; rw [if_pos h1]
   have h1b : (rowErr l != 0) = true := by simp [h1]
   clear h1
   go_enter Tryz.func80, Tryz.ntmps80
   go_wp2_with fail
   refine (SCheck_any A n c l _ (HEn.out.ext ((Ext.refl w).alloc _)) (HL.out.ext ((Ext.refl w).alloc _)) HBd.out hn).mono ?_
   rintro e w1 ⟨rfl, hx1⟩
   go_wp2_with fail
   go_ret
   exact ⟨ret_int HF.out.symm, ((Ext.refl w).alloc _).trans hx1⟩
def spansB (i o : Int) : Bool := decide (0 ≤ i ∧ i < o ∧ o ≤ 5184000)
set_option maxHeartbeats 400000 in
theorem spans_any (i o : Int) (w : World) : Calls Tryz.prog 79 #[.agg #[.int .i64 i, .int .i64 o]] w fun e w' => e = .returned (.bool (spansB i o)) ∧ Ext w w' := by
 have HX := Lib.hid ((Ext.refl w).alloc (.cells #[.int .i64 i, .int .i64 o] 56))
 by_cases h1 : 0 ≤ i
 · by_cases h2 : i < o
   · go_enter Tryz.func79, Tryz.ntmps79
     go_wp2
     go_ret
     refine ⟨ret_bool ?_, HX.out⟩
     unfold spansB
     by_cases h3 : o ≤ 5184000
     · rw [decide_eq_true h3, decide_eq_true ⟨h1, h2, h3⟩]
     · rw [decide_eq_false h3, decide_eq_false (fun h => h3 h.2.2)]
   · go_enter Tryz.func79, Tryz.ntmps79
     go_wp2
     go_ret
     exact ⟨ret_bool (by unfold spansB; rw [decide_eq_false (by omega)]), HX.out⟩
 · go_enter Tryz.func79, Tryz.ntmps79
   go_wp2
   go_ret
   exact ⟨ret_bool (by unfold spansB; rw [decide_eq_false (by omega)]), HX.out⟩
def noKind (k : Int) : Bool := decide (k < 1 ∨ 4 < k)
def kindNames : Array Value := #[.string ⟨#[68, 73, 65, 76, 79, 71, 85, 69]⟩, .string ⟨#[83, 79, 85, 78, 68]⟩, .string ⟨#[84, 73, 84, 76, 69]⟩, .string ⟨#[77, 85, 83, 73, 67]⟩]
theorem kinds_any (w : World) : Calls Tryz.prog 43 #[] w fun e w' => e = .returned (.slice (some ⟨w.heap.size, 0, none⟩) 4 4) ∧ w' = w.alloc (.cells kindNames 9) := by
 go_enter Tryz.func43, Tryz.ntmps43
 go_wp2
 go_ret
 exact ⟨rfl, rfl⟩
def KindPost (k : Int) (w : World) (e : Ending) (w' : World) : Prop := ∃ s : ByteArray, e = .returned (.string s) ∧ s.toList.isEmpty = noKind k ∧ Ext w w'
set_option maxHeartbeats 1000000 in
theorem KindName_any (k : Int) (w : World) : Calls Tryz.prog 23 #[.int .u8 k] w (KindPost k w) := by
 by_cases h1 : k < 1
 · go_enter Tryz.func23, Tryz.ntmps23
   go_wp2_with fail
   go_ret
   exact ⟨_, rfl, by unfold noKind; rw [decide_eq_true (by omega), ByteArray.toList_eq]; rfl, Ext.refl _⟩
 · by_cases h2 : 4 < k
   · go_enter Tryz.func23, Tryz.ntmps23
     go_wp2_with fail
     go_ret
     exact ⟨_, rfl, by unfold noKind; rw [decide_eq_true (by omega), ByteArray.toList_eq]; rfl, Ext.refl _⟩
   · have HN : Hid (noKind k = false) := by show _ = _; unfold noKind; rw [decide_eq_false (by omega)]
     have hk : k = 1 ∨ k = 2 ∨ k = 3 ∨ k = 4 := by omega
     rcases hk with rfl | rfl | rfl | rfl
     all_goals
      clear h1 h2
      go_enter Tryz.func23, Tryz.ntmps23
      go_wp2_with fail
      refine (kinds_any _).mono ?_
      rintro e w1 ⟨rfl, rfl⟩
      unfold kindNames
      go_wp2_with fail
      go_ret
      exact ⟨_, rfl, by rw [HN.out, ByteArray.toList_eq]; rfl, (Ext.refl w).alloc _⟩
end
section
open Go.RowKit
def Reg.usable (r : Reg) : Bool := decide (r = Reg.default ∨ r.check = 0)
def RegC (w : World) (b o : Nat) (r : Reg) : Prop :=
 w.cell? ⟨b, o, none⟩ = some (.string r.name) ∧ w.cell? ⟨b, o + 1, none⟩ = some (.int .i64 r.top) ∧ w.cell? ⟨b, o + 2, none⟩ = some (.int .i64 r.height) ∧ w.cell? ⟨b, o + 3, none⟩ = some (.int .i64 r.left) ∧
 w.cell? ⟨b, o + 4, none⟩ = some (.int .i64 r.width) ∧ w.cell? ⟨b, o + 5, none⟩ = some (.int .u8 r.align) ∧ w.cell? ⟨b, o + 6, none⟩ = some (.bool r.bottom)
theorem RegC.stays : Stays RegC := fun _ _ _ _ _ k h => ⟨k.cell h.1, k.cell h.2.1, k.cell h.2.2.1, k.cell h.2.2.2.1, k.cell h.2.2.2.2.1, k.cell h.2.2.2.2.2.1, k.cell h.2.2.2.2.2.2⟩
set_option maxHeartbeats 1000000 in
theorem usable_any (r : Reg) (w : World) (hs : r.name.size ≤ 9223372036854775807) : Calls Tryz.prog 118 #[r.val] w fun e w' => e = .returned (.bool r.usable) ∧ Ext w w' := by
 have hR := fun w => RCheck_any r w hs
 by_cases hd : r = Reg.default
 · have HF : Hid (r.usable = true) := by show r.usable = true; unfold Reg.usable; exact decide_eq_true (.inl hd)
   have hq := fun w => eql_reg_yes Reg.default w
   subst hd
   clear hR hs
   unfold Reg.val Reg.default at hq ⊢
   unfold Reg.default at HF
   dsimp only at hq HF ⊢
   go_enter Tryz.func118, Tryz.ntmps118
   go_wp2_with fail
   go_region_with (first | (go_at_call 114; refine (Default_any _).mono ?_; rintro e w1 ⟨rfl, hx1⟩; have hx1' := Lib.hid hx1; (have hc := fun o u => hx1.cell (p := ⟨w.heap.size, o, none⟩) (u := u)); simp at hc; clear hx1; unfold Reg.val Reg.default))
   all_goals go_wp2
   all_goals go_ret
   all_goals exact ⟨by rw [HF.out]; rfl, (((Ext.refl w).alloc _).drew).trans hx1'.out⟩
 · obtain ⟨nm, top, hgt, lft, wid, al, bot⟩ := r
   have hq := fun w => eql_reg_no hd w
   have HR := Lib.hid hR
   have HF : Hid (Reg.usable ⟨nm, top, hgt, lft, wid, al, bot⟩ = decide (Reg.check ⟨nm, top, hgt, lft, wid, al, bot⟩ = 0)) := by
    show Reg.usable _ = _
    unfold Reg.usable
    congr 1
    simp [hd]
   clear hR hd
   unfold Reg.val at HR ⊢
   unfold Reg.val Reg.default at hq
   dsimp only at HR hq ⊢
   go_enter Tryz.func118, Tryz.ntmps118
   go_wp2_with fail
   go_region_held3 (fun w' => w'.cell? ⟨w.heap.size, 0, none⟩ = some (.string nm) ∧ w'.cell? ⟨w.heap.size, 1, none⟩ = some (.int .i64 top) ∧ w'.cell? ⟨w.heap.size, 2, none⟩ = some (.int .i64 hgt) ∧ w'.cell? ⟨w.heap.size, 3, none⟩ = some (.int .i64 lft) ∧ w'.cell? ⟨w.heap.size, 4, none⟩ = some (.int .i64 wid) ∧ w'.cell? ⟨w.heap.size, 5, none⟩ = some (.int .u8 al) ∧ w'.cell? ⟨w.heap.size, 6, none⟩ = some (.bool bot))
    (first | go_keep | (go_split_ands; refine ⟨?_, ?_, ?_, ?_, ?_, ?_, ?_⟩ <;> (apply hx2.cell; assumption)) | (go_split_ands; refine ⟨?_, ?_, ?_, ?_, ?_, ?_, ?_⟩ <;> (apply hx1.cell; assumption)))
    (first | (go_at_call 114; refine (Default_any _).mono ?_; rintro e w1 ⟨rfl, hx1⟩; unfold Reg.val Reg.default) | (go_at_call 77; refine (HR.out _).mono ?_; rintro e w2 ⟨rfl, hx2⟩))
   go_wp2
   all_goals go_ret
   all_goals exact ⟨by rw [HF.out]; exact ret_bool rfl, ((((Ext.refl w).alloc _).drew).trans hx1).trans hx2⟩
end
end Go.Proofs.YtbmblnhfmpolbaaGreatDoor