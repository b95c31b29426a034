/- Laid together: The walk of the reference's Sort. -/
import Derived.Test.YtagfedbdakmlgaaGreatDoorCk13
import Derived.Test.YtagfedbdakmlgaaGreatDoorCk17
import Derived.Test.YtagfedbdakmlgaaGreatDoorCk05
import Derived.Test.YtagfedbdakmlgaaGreatDoorCk09

/-! SortR -/
namespace Go.Proofs.YtagfedbdakmlgaaGreatDoor
set_option linter.unusedVariables false
set_option linter.unusedSimpArgs false
open Go.RowKit
theorem sl_take {α : Type} {C : World → Nat → Nat → α → Prop} {w : World} {s : Nat} {A : Option Addr} {n j : Nat} {l : List α} (h : Sl w s C A n l) (hj : j ≤ n) : Sl w s C A j (l.take j) := by
  refine ⟨by rw [List.length_take, h.1]; omega, fun h0 => ?_⟩
  obtain ⟨b, off, hA, hc⟩ := h.2 (by omega)
  refine ⟨b, off, hA, fun i x hx => hc i x ?_⟩
  rw [List.getElem?_take] at hx
  split at hx
  · exact hx
  · cases hx
theorem sl_drop {α : Type} {C : World → Nat → Nat → α → Prop} {w : World} {s g c n j : Nat} {l : List α} (h : Sl w s C (some ⟨g, 0, none⟩) n l) (hj : j ≤ n) (hc : n ≤ c) : Sl w s C (if c = j then (some ⟨g, 0, none⟩ : Option Addr) else some ⟨g, j * s, none⟩) (n - j) (l.drop j) := by
  refine ⟨by rw [List.length_drop, h.1], fun h0 => ?_⟩
  obtain ⟨b, off, hA, hC⟩ := h.2 (by omega)
  cases hA
  refine ⟨g, j * s, by rw [if_neg (by omega)], fun i x hx => ?_⟩
  rw [List.getElem?_drop] at hx
  have := hC (j + i) x hx
  rwa [Nat.zero_add, Nat.add_mul] at this
/-- the three appends around the copy of an event, in a drawn region -/
def InsJ (W : World) (hs : List EH) (j m : Nat) (x : Ev) (n' : Nat) (us : List Value) (w' : World) : Prop := Ext W w' ∧ match us with
  | [] => True
  | [u0] => w'.ownsRow W.heap.size 66 7 u0 j ((hs.take j).flatMap EH.vals)
  | [u0, u1] => w'.ownsRow W.heap.size 66 7 u0 j ((hs.take j).flatMap EH.vals) ∧ ∃ A5 c5, u1 = .agg (x.cells A5 n' c5) ∧ n' ≤ c5 ∧ RowsFresh w' W.heap.size A5 n' x.rows
  | [u0, _, u2] => w'.ownsRow W.heap.size 66 7 u0 j ((hs.take j).flatMap EH.vals) ∧ ∃ A5 c5 g5, n' ≤ c5 ∧ RowsFresh w' W.heap.size A5 n' x.rows ∧ u2 = .slice (some ⟨g5, 0, none⟩) 1 1 ∧ Blk w' g5 66 (x.cells A5 n' c5)
  | [_, _, _, u3] => ∃ A5 c5, n' ≤ c5 ∧ RowsFresh w' W.heap.size A5 n' x.rows ∧ w'.ownsRow W.heap.size 66 7 u3 (j + 1) ((hs.take j).flatMap EH.vals ++ (x.cells A5 n' c5).toList)
  | [_, _, _, _, u4] => ∃ A5 c5, n' ≤ c5 ∧ RowsFresh w' W.heap.size A5 n' x.rows ∧ w'.ownsRow W.heap.size 66 7 u4 (j + 1 + m) ((hs.take j).flatMap EH.vals ++ (x.cells A5 n' c5).toList ++ (hs.drop j).flatMap EH.vals)
  | [_, _, _, _, u4, u5] => u5 = u4 ∧ ∃ A5 c5, n' ≤ c5 ∧ RowsFresh w' W.heap.size A5 n' x.rows ∧ w'.ownsRow W.heap.size 66 7 u4 (j + 1 + m) ((hs.take j).flatMap EH.vals ++ (x.cells A5 n' c5).toList ++ (hs.drop j).flatMap EH.vals)
  | _ => False
theorem evs_insert {w0 W w' : World} {k j : Nat} {hs : List EH} {M : List Ev} {x : Ev} {h : EH} {v : Value} (hw : Ext w0 W) (hx : Ext W w') (h1 : hs.length = k) (h2 : M.length = k) (hg : ∀ (i : Nat) (h : EH) (e : Ev), hs[i]? = some h → M[i]? = some e → EGood W w0.heap.size h e)
    (he : EGood w' W.heap.size h x) (ho : w'.ownsRow W.heap.size 66 7 v (k + 1) ((hs.take j ++ h :: hs.drop j).flatMap EH.vals)) : EvsOwn w' w0.heap.size v (k + 1) (M.take j ++ x :: M.drop j) := by
  refine ⟨hs.take j ++ h :: hs.drop j, own_le ho hw.size, ?_, ?_, fun i y e hy hee => ?_⟩
  · rw [List.length_append, List.length_cons, List.length_take, List.length_drop]; omega
  · rw [List.length_append, List.length_cons, List.length_take, List.length_drop]; omega
  · rw [List.getElem?_append] at hy hee
    rw [List.length_take, h1] at hy
    rw [List.length_take, h2] at hee
    split at hy
    · rename_i hi
      rw [if_pos hi] at hee
      rw [List.getElem?_take_of_lt (by omega)] at hy hee
      exact (hg i y e hy hee).ext hx
    · rename_i hi
      rw [if_neg hi] at hee
      obtain ⟨t, ht⟩ : ∃ t, t = i - min j k := ⟨_, rfl⟩
      rw [← ht] at hy hee
      cases t with
      | zero =>
        simp only [List.getElem?_cons_zero, Option.some.injEq] at hy hee
        subst hy hee
        exact he.le hw.size
      | succ t =>
        simp only [List.getElem?_cons_succ, List.getElem?_drop] at hy hee
        exact (hg _ y e hy hee).ext hx
/-- the search for an event's place -/
def InsRel (M : List Ev) (x : Ev) (k : Nat) (W : World) (s6 : Value) (wr : World) : Prop := ∃ j : Nat, s6 = .int .i64 j ∧ j ≤ k ∧ Ext W wr ∧ (∀ (p : Nat) (y : Ev), j ≤ p → M[p]? = some y → lessB x y = true)
def RSortLoop (l : List Ev) (n : Nat) (w : World) (v i : Value) (wr : World) : Prop := ∃ k : Nat, k ≤ n ∧ i = .int .i64 k ∧ Ext w wr ∧ EvsOwn wr w.heap.size v k (srtE (l.take k))
set_option maxRecDepth 100000 in
set_option maxHeartbeats 8000000 in
theorem R12Sort_any (l : List Ev) (A : Option Addr) (n c : Nat) (w : World) (hat : EvsAt w A n l) (hn : n * 88 ≤ 140737488355328) :
    Calls Tryz.prog 45 #[.slice A n c] w (SortPost l n w) := by
  have HE := Lib.hid hat
  have HEl := Lib.hid hat.len
  clear hat
  go_enter Tryz.func45, Tryz.ntmps45
  go_wp2_with fail
  go_loopw [3, 10] (fun v i wr => RSortLoop l n w v i wr) (fun _ i _ => n - (intOf i).toNat)
  case atStart => exact ⟨0, Nat.zero_le _, rfl, Ext.refl w, EvsOwn.nil _ _⟩
  case round =>
    obtain ⟨k, hk, rfl, hx, hev⟩ := hrel
    have HXr := Lib.hid hx
    have HEv := Lib.hid hev
    clear hx hev
    by_cases hlt : k < n
    · obtain ⟨b, off, x, A', n', c', rfl, hxx, hxat, e0, e1, e2, e3, e4, e5, e6⟩ := (HE.out.ext HXr.out).at_ev hlt
      have HXx := Lib.hid hxx
      have HCn := Lib.hid (fun w' (hx : Ext wr w') => REClone_any x A' n' c' w' (hxat.ext hx))
      have hn24 := hxat.2.2
      clear hxx hxat
      obtain ⟨hs9, hown9, hh9, -, -⟩ := HEv.out
      rcases hown9.2 with ⟨hv, hk0⟩ | ⟨g, c6, cur9, hv, hg9, hb9, hnc9, hcm9, -⟩
      · subst hv
        clear hown9 hh9
        subst hk0
        simp only [Nat.zero_mul, Nat.add_zero] at e0 e1 e2 e3 e4 e5 e6
        obtain ⟨gx, hgx⟩ : ∃ gx, gx = wr.heap.size := ⟨_, rfl⟩
        unfold Ev.cells at HCn
        have HB1 : Hid (Blk (wr.alloc (.cells #[.int .i64 x.id, .int .i64 x.inn, .int .i64 x.out, .string x.region, .int .u8 x.kind, .string x.speaker, .slice A' n' c'] 66)) gx 66 #[.int .i64 x.id, .int .i64 x.inn, .int .i64 x.out, .string x.region, .int .u8 x.kind, .string x.speaker, .slice A' n' c']) := by show Blk _ _ _ _; rw [hgx]; exact Blk.new wr _ _
        have HX1 := Lib.hid ((Ext.refl wr).alloc (.cells #[.int .i64 x.id, .int .i64 x.inn, .int .i64 x.out, .string x.region, .int .u8 x.kind, .string x.speaker, .slice A' n' c'] 66))
        go_upto_region 5 with fail
        rw [← hgx]
        clear e0 e1 e2 e3 e4 e5 e6
        generalize hWg : wr.alloc (.cells #[.int .i64 x.id, .int .i64 x.inn, .int .i64 x.out, .string x.region, .int .u8 x.kind, .string x.speaker, .slice A' n' c'] 66) = W1 at *
        clear hWg hgx
        go_wp2_with fail
        go_loopw [6] (fun s6 wr2 => InsRel (srtE (l.take 0)) x 0 W1 s6 wr2) (fun s _ => (intOf s).toNat)
        case atStart => exact ⟨0, rfl, Nat.le_refl _, Ext.refl _, fun p y h1 h2 => by have := (List.getElem?_eq_some_iff.1 h2).1; have := HEv.out.len; omega⟩
        case round =>
          obtain ⟨j, rfl, hjk, hx2, hgt⟩ := hrel
          have HGt := Lib.hid hgt
          have HB2 := Lib.hid (HB1.out.ext hx2)
          have HX2 := Lib.hid hx2
          clear hgt hx2
          obtain rfl : j = 0 := by omega
          have HLt : Hid ((0 : Nat) = 0 ∨ ∀ y, (srtE (l.take 0))[0 - 1]? = some y → lessB x y = false) := .inl rfl
          go_wp2_with fail
          refine wp_region_ew wr (Ext.refl _) (by kernel_rfl) (by kernel_rfl) ?_
          repeat (go_big_quiet_step ((fail)))
          refine wpQuiet_nil ?_
          rintro w9 ⟨⟨_, hx9⟩, rfl⟩
          try dsimp only
          have HXe : Hid (Ext w w9) := HXr.out.trans (HX1.out.trans (HX2.out.trans hx9))
          have HEve : Hid (EvsOwn w9 w.heap.size (.slice none 0 0) 0 (srtE (l.take 0))) := ((HEv.out.ext HX1.out).ext HX2.out).ext hx9
          have HBxe := Lib.hid (HB2.out.ext hx9)
          have HCle : Hid (∀ w', Ext w9 w' → Calls Tryz.prog 77 #[.agg #[.int .i64 x.id, .int .i64 x.inn, .int .i64 x.out, .string x.region, .int .u8 x.kind, .string x.speaker, .slice A' n' c']] w' (EClPost x n' w')) := fun w' hx => HCn.out w' (HX1.out.trans (HX2.out.trans (hx9.trans hx)))
          clear HX2 hx9 HB2
          go_wp2_with fail
          obtain ⟨W, hW⟩ : ∃ W, W = w9 := ⟨_, rfl⟩
          have HXW : Hid (Ext w W) := by show Ext _ _; rw [hW]; exact HXe.out
          have HEvW : Hid (EvsOwn W w.heap.size (.slice none 0 0) 0 (srtE (l.take 0))) := by show EvsOwn _ _ _ _ _; rw [hW]; exact HEve.out
          have HBx : Hid (Blk W gx 66 #[.int .i64 x.id, .int .i64 x.inn, .int .i64 x.out, .string x.region, .int .u8 x.kind, .string x.speaker, .slice A' n' c']) := by show Blk _ _ _ _; rw [hW]; exact HBxe.out
          have HCl : Hid (∀ w', Ext W w' → Calls Tryz.prog 77 #[.agg #[.int .i64 x.id, .int .i64 x.inn, .int .i64 x.out, .string x.region, .int .u8 x.kind, .string x.speaker, .slice A' n' c']] w' (EClPost x n' w')) := by show ∀ w', _ → _; rw [hW]; exact fun w' hx => HCle.out w' hx
          rw [← hW]
          clear hW HXe HEve HBxe HCle
          obtain ⟨hs, hown, hh, hM, hgd⟩ := HEvW.out
          obtain rfl : hs = [] := List.length_eq_zero_iff.1 hh
          have HS0 : Hid (Sl W 7 (Cells EH.vals) none 0 (([] : List EH).take 0)) := Sl.nil
          have HS1 : Hid (Sl W 7 (Cells EH.vals) none 0 (([] : List EH).drop 0)) := Sl.nil
          have HGd := Lib.hid hgd
          clear hgd hown hM hh
          obtain ⟨hs, hhs⟩ : ∃ hs : List EH, hs = [] := ⟨_, rfl⟩
          rw [← hhs] at HS0 HS1 HGd
          have HHs := Lib.hid hhs
          clear hhs
          go_upto_region 9 with fail
          refine wp_region_links [some 29, some 30, some 31, some 32, some 33, some 34, some 35, some 36, some 37, some 38, some 39, some 40, some 41, some 7] [[], [], [], [1, 2], [0, 3], [], [5, 4], [6], [4, 7, 6], [], [], [9, 10], [8, 11, 8], [12, 12, 0, 1, 2, 3, 4, 5, 6, 7, 8, 9, 10, 11, 12]] [4, 6, 7, 8, 12, 13] [.slice none 0 0, .slice none 0 0, .int .i64 0, .slice none 0 0, undef, .agg #[.int .i64 x.id, .int .i64 x.inn, .int .i64 x.out, .string x.region, .int .u8 x.kind, .string x.speaker, .slice A' n' c'], undef, undef, undef, .slice none 0 0, .int .i64 0, .slice none 0 0, undef, undef] (InsJ W hs 0 0 x n') (by kernel_rfl) (by kernel_rfl) (by kernel_rfl) (by kernel_rfl) (by kernel_rfl) (by kernel_rfl) (by kernel_rfl) (by decide) ?_ ?_ ?_ ?_
          · exact ⟨(Ext.refl W).drew, trivial⟩
          · intro i o ho hc a w' us K' hJ hF hlim hk
            match i, ho with
            | 0, ho =>
              simp only [List.getElem?_toArray, List.getElem?_cons_zero, List.getElem?_cons_succ, Option.some.injEq] at ho
              subst ho
              have e7 := hF.olds 5 13 7 (.slice none 0 0) rfl rfl (hlim 5 13 rfl rfl) rfl
              simp only [Act.eval] at e7
              clear hF hlim hJ
              go_simp
              exact hk
            | 1, ho =>
              simp only [List.getElem?_toArray, List.getElem?_cons_zero, List.getElem?_cons_succ, Option.some.injEq] at ho
              subst ho
              have e3 := hF.old 3 (.slice none 0 0) rfl rfl
              simp only [Act.eval] at e3
              clear hF hlim hJ
              go_simp
              exact hk
            | 2, ho =>
              simp only [List.getElem?_toArray, List.getElem?_cons_zero, List.getElem?_cons_succ, Option.some.injEq] at ho
              subst ho
              have e6 := hF.old 6 (.int .i64 0) rfl rfl
              simp only [Act.eval] at e6
              clear hF hlim hJ
              go_simp
              exact hk
            | 3, ho =>
              simp only [List.getElem?_toArray, List.getElem?_cons_zero, List.getElem?_cons_succ, Option.some.injEq] at ho
              subst ho
              have e30 := hF.pure 1 30 (.slice none 0 0) rfl rfl rfl rfl
              have e31 := hF.pure 2 31 (.int .i64 0) rfl rfl rfl rfl
              simp only [Act.eval] at e30 e31
              clear hF hlim hJ
              go_simp
              exact hk
            | 4, ho => simp at hc
            | 5, ho =>
              simp only [List.getElem?_toArray, List.getElem?_cons_zero, List.getElem?_cons_succ, Option.some.injEq] at ho
              subst ho
              have e5 := hF.old 5 (.pointer (some ⟨gx, 0, none⟩)) rfl rfl
              exact wp_loadBk 66 (.tmp 5) rfl _ 66 _ _ e5 (HBx.out.ext hJ.1) Tryz.underlying66 rfl (by exact size_event) hk
            | 6, ho => simp at hc
            | 7, ho => simp at hc
            | 8, ho => simp at hc
            | 9, ho =>
              simp only [List.getElem?_toArray, List.getElem?_cons_zero, List.getElem?_cons_succ, Option.some.injEq] at ho
              subst ho
              have e3 := hF.old 3 (.slice none 0 0) rfl rfl
              simp only [Act.eval] at e3
              clear hF hlim hJ
              go_simp
              exact hk
            | 10, ho =>
              simp only [List.getElem?_toArray, List.getElem?_cons_zero, List.getElem?_cons_succ, Option.some.injEq] at ho
              subst ho
              have e6 := hF.old 6 (.int .i64 0) rfl rfl
              simp only [Act.eval] at e6
              clear hF hlim hJ
              go_simp
              exact hk
            | 11, ho =>
              simp only [List.getElem?_toArray, List.getElem?_cons_zero, List.getElem?_cons_succ, Option.some.injEq] at ho
              subst ho
              have e38 := hF.pure 9 38 (.slice none 0 0) rfl rfl rfl rfl
              have e39 := hF.pure 10 39 (.int .i64 0) rfl rfl rfl rfl
              simp only [Act.eval] at e38 e39
              clear hF hlim hJ
              go_simp
              exact hk
            | 12, ho => simp at hc
            | 13, ho => simp at hc
            | i + 14, ho => simp at ho
          · intro p c' o hp ho a w' us K' hl hJ hF hk
            match p, hp with
            | 0, hp =>
              obtain rfl : 4 = c' := by simpa using hp
              simp only [List.getElem?_toArray, List.getElem?_cons_zero, List.getElem?_cons_succ, Option.some.injEq] at ho
              subst ho
              obtain rfl : us = [] := List.eq_nil_of_length_eq_zero hl
              have e29 := hF.pure 0 29 (.slice none 0 0) rfl rfl rfl rfl
              have e32 := hF.pure 3 32 (.slice none 0 0) rfl rfl rfl rfl
              have hsW := hJ.1.size
              exact wp_appendS (.tmp 29) (.tmp 32) 24 rfl info_evtI Tryz.underlying24 rfl (by decide) (base := W.heap.size) (v := .slice none 0 0) (n := 0) (xs := []) ⟨rfl, .inl ⟨rfl, rfl⟩⟩ e29 e32 (Sl.ext (Cells.stays _) HS0.out hJ.1) EH.len EH.ones (by omega) (by unfold maxLen; omega) (by omega) (fun v' w'' ho hg => hk _ _ ⟨hJ.1.grown hg (fun q hq => by cases hq), by simpa using ho⟩)
            | 1, hp =>
              obtain rfl : 6 = c' := by simpa using hp
              simp only [List.getElem?_toArray, List.getElem?_cons_zero, List.getElem?_cons_succ, Option.some.injEq] at ho
              subst ho
              obtain ⟨u0, rfl⟩ := list_1 hl
              have e34 := hF.pure 5 34 (.agg #[.int .i64 x.id, .int .i64 x.inn, .int .i64 x.out, .string x.region, .int .u8 x.kind, .string x.speaker, .slice A' n' c']) rfl rfl rfl rfl
              refine wp_call1 rfl e34 Tryz.call77 (HCl.out w' hJ.1) ?_
              rintro en w2 ⟨A5, c5, rfl, hnc5, hrf5, hx5⟩
              exact ⟨_, rfl, hk _ w2 ⟨hJ.1.trans hx5, own_ext hJ.2 hx5, A5, c5, rfl, hnc5, hrf5.le hJ.1.size⟩⟩
            | 2, hp =>
              obtain rfl : 7 = c' := by simpa using hp
              simp only [List.getElem?_toArray, List.getElem?_cons_zero, List.getElem?_cons_succ, Option.some.injEq] at ho
              subst ho
              obtain ⟨u0, u1, rfl⟩ := list_2 hl
              obtain ⟨hx, ho, A5, c5, rfl, hnc5, hrf5⟩ := hJ
              have e35 := hF.link 1 6 35 _ rfl rfl rfl rfl
              simp only [Act.eval, Ev.cells] at e35
              have e35b := e35
              rw [Array.getD_eq_getD_getElem?] at e35b
              have HK := Lib.hid (hk (.slice (some ⟨w'.heap.size, 0, none⟩) 1 1) (w'.alloc (.cells #[.int .i64 x.id, .int .i64 x.inn, .int .i64 x.out, .string x.region, .int .u8 x.kind, .string x.speaker, .slice A5 n' c5] 66)) ⟨hx.alloc _, own_ext ho ((Ext.refl w').alloc _), A5, c5, w'.heap.size, hnc5, hrf5.ext ((Ext.refl w').alloc _), rfl, Blk.new w' _ _⟩)
              clear hk hF
              go_simp
              exact HK.out
            | 3, hp =>
              obtain rfl : 8 = c' := by simpa using hp
              simp only [List.getElem?_toArray, List.getElem?_cons_zero, List.getElem?_cons_succ, Option.some.injEq] at ho
              subst ho
              obtain ⟨u0, u1, u2, rfl⟩ := list_3 hl
              obtain ⟨hx, ho, A5, c5, g5, hnc5, hrf5, rfl, hb5⟩ := hJ
              have hsW := hx.size
              have e33 := hF.link 0 4 33 _ rfl rfl rfl rfl
              have e36 := hF.link 2 7 36 _ rfl rfl rfl rfl
              exact wp_append1a (.tmp 33) (.tmp 36) 24 rfl info_evtI Tryz.underlying24 rfl (by decide) ho e33 g5 _ e36 hb5 (by exact rfl) (by simp [Ev.cells, Value.oneCell']) (by omega) (by unfold maxLen; omega) (by omega) (fun v' w'' ho' hg _ => hk _ _ ⟨hx.grown hg (fun q hq => own_lt ho q hq), A5, c5, hnc5, hrf5.kb (KB.grown hg (own_typed ho) (by decide)) (KB.grown hg (own_typed ho) (by decide)), ho'⟩)
            | 4, hp =>
              obtain rfl : 12 = c' := by simpa using hp
              simp only [List.getElem?_toArray, List.getElem?_cons_zero, List.getElem?_cons_succ, Option.some.injEq] at ho
              subst ho
              obtain ⟨u0, u1, u2, u3, rfl⟩ := list_4 hl
              obtain ⟨hx, A5, c5, hnc5, hrf5, ho⟩ := hJ
              have hsW := hx.size
              have e37 := hF.link 3 8 37 _ rfl rfl rfl rfl
              have e40 := hF.pure 11 40 (.slice none 0 0) rfl rfl rfl rfl
              exact wp_appendS (.tmp 37) (.tmp 40) 24 rfl info_evtI Tryz.underlying24 rfl (by decide) ho e37 e40 (Sl.ext (Cells.stays _) HS1.out hx) EH.len EH.ones (by omega) (by unfold maxLen; omega) (by omega) (fun v' w'' ho' hg => hk _ _ ⟨hx.grown hg (fun q hq => own_lt ho q hq), A5, c5, hnc5, hrf5.kb (KB.grown hg (own_typed ho) (by decide)) (KB.grown hg (own_typed ho) (by decide)), ho'⟩)
            | 5, hp =>
              obtain rfl : 13 = c' := by simpa using hp
              simp only [List.getElem?_toArray, List.getElem?_cons_zero, List.getElem?_cons_succ, Option.some.injEq] at ho
              subst ho
              obtain ⟨u0, u1, u2, u3, u4, rfl⟩ := list_5 hl
              have e41 := hF.link 4 12 41 _ rfl rfl rfl rfl
              exact wp_assignx _ _ rfl e41 (hk _ _ ⟨hJ.1, rfl, hJ.2⟩)
            | p + 6, hp => simp at hp
          intro us w9 hl hJ
          obtain ⟨u0, u1, u2, u3, u4, u5, rfl⟩ := list_6 hl
          first | (rename_i hK; refine hK _ _ ?_; clear hK) | (rename_i hK hK_1; refine hK _ _ ?_; clear hK) | (rename_i hK hK_1 hK_2; refine hK _ _ ?_; clear hK) | (rename_i hK hK_1 hK_2 hK_3; refine hK _ _ ?_; clear hK)
          generalize hL : frameL _ _ _ _ = L
          obtain rfl : L = [(29, .slice none 0 0), (30, .slice none 0 0), (31, .int .i64 0), (32, .slice none 0 0), (33, u0), (34, .agg #[.int .i64 x.id, .int .i64 x.inn, .int .i64 x.out, .string x.region, .int .u8 x.kind, .string x.speaker, .slice A' n' c']), (35, u1), (36, u2), (37, u3), (38, .slice none 0 0), (39, .int .i64 0), (40, .slice none 0 0), (41, u4), (7, u5)] := hL.symm.trans (by kernel_rfl)
          clear hL hl
          simp only [Act.put, List.foldl_cons, List.foldl_nil, List.setIfInBounds_toArray, List.set_cons_zero, List.set_cons_succ]
          obtain ⟨hx9, rfl, A5, c5, hnc5, hrf5, ho9⟩ := hJ
          have hin : EvsOwn w9 w.heap.size u5 (0 + 1) (srtE (l.take (0 + 1))) := by
            have hsr := Stb.sortS_snoc (lt := lessB) (l.take 0) x
            rw [← take_snoc' l 0 x HXx.out] at hsr
            have hsp := Stb.insS_split lessB_sw (srtE (l.take 0)) x 0 (Stb.sortS_spec lessB_sw (l.take 0)).1 (Nat.zero_le _) HGt.out (.inl rfl)
            have hfin : srtE (l.take (0 + 1)) = (srtE (l.take 0)).take 0 ++ x :: (srtE (l.take 0)).drop 0 := hsr.trans hsp
            rw [hfin]
            exact evs_insert (h := EH.of x A5 n' c5) HXW.out hx9 (by rw [HHs.out]; rfl) (by simp [srtE, Stb.sortS]) HGd.out ⟨rfl, hnc5, hn24, hrf5⟩ (by have ho8 : w9.ownsRow W.heap.size 66 7 u5 (0 + 1 + 0) ((hs.take 0).flatMap EH.vals ++ (EH.of x A5 n' c5).vals ++ (hs.drop 0).flatMap EH.vals) := ho9; rw [HHs.out] at ho8 ⊢; simpa using ho8)
          clear hrf5 ho9 hnc5
          go_wp2_with fail
          exact ⟨⟨0 + 1, by omega, by go_num, HXW.out.trans hx9, hin⟩, by simp [intOf]; omega⟩
      · subst hv
        clear hown9 hh9 hb9
        have hat6 := HEv.out.evs
        have HA6 := Lib.hid hat6
        clear hat6
        obtain ⟨gx, hgx⟩ : ∃ gx, gx = wr.heap.size := ⟨_, rfl⟩
        unfold Ev.cells at HCn
        have HB1 : Hid (Blk (wr.alloc (.cells #[.int .i64 x.id, .int .i64 x.inn, .int .i64 x.out, .string x.region, .int .u8 x.kind, .string x.speaker, .slice A' n' c'] 66)) gx 66 #[.int .i64 x.id, .int .i64 x.inn, .int .i64 x.out, .string x.region, .int .u8 x.kind, .string x.speaker, .slice A' n' c']) := by show Blk _ _ _ _; rw [hgx]; exact Blk.new wr _ _
        have HX1 := Lib.hid ((Ext.refl wr).alloc (.cells #[.int .i64 x.id, .int .i64 x.inn, .int .i64 x.out, .string x.region, .int .u8 x.kind, .string x.speaker, .slice A' n' c'] 66))
        go_upto_region 5 with fail
        rw [← hgx]
        clear e0 e1 e2 e3 e4 e5 e6
        generalize hWg : wr.alloc (.cells #[.int .i64 x.id, .int .i64 x.inn, .int .i64 x.out, .string x.region, .int .u8 x.kind, .string x.speaker, .slice A' n' c'] 66) = W1 at *
        clear hWg hgx
        go_wp2_with fail
        go_loopw [6] (fun s6 wr2 => InsRel (srtE (l.take k)) x k W1 s6 wr2) (fun s _ => (intOf s).toNat)
        case atStart => exact ⟨k, rfl, Nat.le_refl _, Ext.refl _, fun p y h1 h2 => by have := (List.getElem?_eq_some_iff.1 h2).1; have := HEv.out.len; omega⟩
        case round =>
          obtain ⟨j, rfl, hjk, hx2, hgt⟩ := hrel
          have HGt := Lib.hid hgt
          have HB2 := Lib.hid (HB1.out.ext hx2)
          have HX2 := Lib.hid hx2
          clear hgt hx2
          by_cases hj0 : j = 0
          · have hjz : decide ((j : Int) > 0) = false := decide_eq_false (by omega)
            have hjz' : ¬ (0 : Int) < (j : Int) := by omega
            have hjz2 : decide (0 < j) = false := decide_eq_false (by omega)
            have hjz3 : ¬ 0 < j := by omega
            have HLt : Hid (j = 0 ∨ ∀ y, (srtE (l.take k))[j - 1]? = some y → lessB x y = false) := .inl hj0
            have HJ0 := Lib.hid hj0
            clear hj0
            go_wp2_with fail
            refine wp_region_ew wr (Ext.refl _) (by kernel_rfl) (by kernel_rfl) ?_
            repeat (go_big_quiet_step ((fail)))
            refine wpQuiet_nil ?_
            rintro w9 ⟨⟨_, hx9⟩, rfl⟩
            try dsimp only
            have HXe : Hid (Ext w w9) := HXr.out.trans (HX1.out.trans (HX2.out.trans hx9))
            have HEve : Hid (EvsOwn w9 w.heap.size (.slice (some ⟨g, 0, none⟩) k c6) k (srtE (l.take k))) := ((HEv.out.ext HX1.out).ext HX2.out).ext hx9
            have HBxe := Lib.hid (HB2.out.ext hx9)
            have HCle : Hid (∀ w', Ext w9 w' → Calls Tryz.prog 77 #[.agg #[.int .i64 x.id, .int .i64 x.inn, .int .i64 x.out, .string x.region, .int .u8 x.kind, .string x.speaker, .slice A' n' c']] w' (EClPost x n' w')) := fun w' hx => HCn.out w' (HX1.out.trans (HX2.out.trans (hx9.trans hx)))
            clear HX2 hx9 HB2
            go_wp2_with fail
            obtain ⟨W, hW⟩ : ∃ W, W = w9 := ⟨_, rfl⟩
            have HXW : Hid (Ext w W) := by show Ext _ _; rw [hW]; exact HXe.out
            have HEvW : Hid (EvsOwn W w.heap.size (.slice (some ⟨g, 0, none⟩) k c6) k (srtE (l.take k))) := by show EvsOwn _ _ _ _ _; rw [hW]; exact HEve.out
            have HBx : Hid (Blk W gx 66 #[.int .i64 x.id, .int .i64 x.inn, .int .i64 x.out, .string x.region, .int .u8 x.kind, .string x.speaker, .slice A' n' c']) := by show Blk _ _ _ _; rw [hW]; exact HBxe.out
            have HCl : Hid (∀ w', Ext W w' → Calls Tryz.prog 77 #[.agg #[.int .i64 x.id, .int .i64 x.inn, .int .i64 x.out, .string x.region, .int .u8 x.kind, .string x.speaker, .slice A' n' c']] w' (EClPost x n' w')) := by show ∀ w', _ → _; rw [hW]; exact fun w' hx => HCle.out w' hx
            rw [← hW]
            clear hW HXe HEve HBxe HCle
            obtain ⟨hs, hown, hh, hM, hgd⟩ := HEvW.out
            obtain ⟨A9, c9, hv9, hc9, hm9, hsl9, -⟩ := own_sl (f := EH.vals) (size := 7) EH.len hh hown
            cases hv9
            have HS0 : Hid (Sl W 7 (Cells EH.vals) (some ⟨g, 0, none⟩) j (hs.take j)) := sl_take hsl9 hjk
            obtain ⟨A1, hA1, hsl1⟩ : ∃ A1, (if c6 = j then (some ⟨g, 0, none⟩ : Option Addr) else some ⟨g, j * 7, none⟩) = A1 ∧ Sl W 7 (Cells EH.vals) A1 (k - j) (hs.drop j) := ⟨_, rfl, sl_drop hsl9 hjk hc9⟩
            have HS1 := Lib.hid hsl1
            have HGd := Lib.hid hgd
            have HMl := Lib.hid hM
            have HHl := Lib.hid hh
            have hjc : 0 ≤ (j : Int) ∧ (j : Int) ≤ (c6 : Int) := by omega
            have hjk2 : 0 ≤ (j : Int) ∧ (j : Int) ≤ (k : Int) := by omega
            have hjc2 : j ≤ c6 := by omega
            clear hgd hown hM hh hsl9 hsl1
            go_upto_region 9 with fail
            refine wp_region_links [some 29, some 30, some 31, some 32, some 33, some 34, some 35, some 36, some 37, some 38, some 39, some 40, some 41, some 7] [[], [], [], [1, 2], [0, 3], [], [5, 4], [6], [4, 7, 6], [], [], [9, 10], [8, 11, 8], [12, 12, 0, 1, 2, 3, 4, 5, 6, 7, 8, 9, 10, 11, 12]] [4, 6, 7, 8, 12, 13] [.slice none 0 0, .slice (some ⟨g, 0, none⟩) k c6, .int .i64 (j : Int), .slice (some ⟨g, 0, none⟩) j c6, undef, .agg #[.int .i64 x.id, .int .i64 x.inn, .int .i64 x.out, .string x.region, .int .u8 x.kind, .string x.speaker, .slice A' n' c'], undef, undef, undef, .slice (some ⟨g, 0, none⟩) k c6, .int .i64 (j : Int), .slice A1 (k - j) (c6 - j), undef, undef] (InsJ W hs j (k - j) x n') (by kernel_rfl) (by kernel_rfl) (by kernel_rfl) (by kernel_rfl) (by kernel_rfl) (by kernel_rfl) (by kernel_rfl) (by decide) ?_ ?_ ?_ ?_
            · exact ⟨(Ext.refl W).drew, trivial⟩
            · intro i o ho hc a w' us K' hJ hF hlim hk
              match i, ho with
              | 0, ho =>
                simp only [List.getElem?_toArray, List.getElem?_cons_zero, List.getElem?_cons_succ, Option.some.injEq] at ho
                subst ho
                have e7 := hF.olds 5 13 7 (.slice none 0 0) rfl rfl (hlim 5 13 rfl rfl) rfl
                simp only [Act.eval] at e7
                clear hF hlim hJ
                go_simp
                exact hk
              | 1, ho =>
                simp only [List.getElem?_toArray, List.getElem?_cons_zero, List.getElem?_cons_succ, Option.some.injEq] at ho
                subst ho
                have e3 := hF.old 3 (.slice (some ⟨g, 0, none⟩) k c6) rfl rfl
                simp only [Act.eval] at e3
                clear hF hlim hJ
                go_simp
                exact hk
              | 2, ho =>
                simp only [List.getElem?_toArray, List.getElem?_cons_zero, List.getElem?_cons_succ, Option.some.injEq] at ho
                subst ho
                have e6 := hF.old 6 (.int .i64 (j : Int)) rfl rfl
                simp only [Act.eval] at e6
                clear hF hlim hJ
                go_simp
                exact hk
              | 3, ho =>
                simp only [List.getElem?_toArray, List.getElem?_cons_zero, List.getElem?_cons_succ, Option.some.injEq] at ho
                subst ho
                have e30 := hF.pure 1 30 (.slice (some ⟨g, 0, none⟩) k c6) rfl rfl rfl rfl
                have e31 := hF.pure 2 31 (.int .i64 (j : Int)) rfl rfl rfl rfl
                simp only [Act.eval] at e30 e31
                clear hF hlim hJ
                go_simp
                exact hk
              | 4, ho => simp at hc
              | 5, ho =>
                simp only [List.getElem?_toArray, List.getElem?_cons_zero, List.getElem?_cons_succ, Option.some.injEq] at ho
                subst ho
                have e5 := hF.old 5 (.pointer (some ⟨gx, 0, none⟩)) rfl rfl
                exact wp_loadBk 66 (.tmp 5) rfl _ 66 _ _ e5 (HBx.out.ext hJ.1) Tryz.underlying66 rfl (by exact size_event) hk
              | 6, ho => simp at hc
              | 7, ho => simp at hc
              | 8, ho => simp at hc
              | 9, ho =>
                simp only [List.getElem?_toArray, List.getElem?_cons_zero, List.getElem?_cons_succ, Option.some.injEq] at ho
                subst ho
                have e3 := hF.old 3 (.slice (some ⟨g, 0, none⟩) k c6) rfl rfl
                simp only [Act.eval] at e3
                clear hF hlim hJ
                go_simp
                exact hk
              | 10, ho =>
                simp only [List.getElem?_toArray, List.getElem?_cons_zero, List.getElem?_cons_succ, Option.some.injEq] at ho
                subst ho
                have e6 := hF.old 6 (.int .i64 (j : Int)) rfl rfl
                simp only [Act.eval] at e6
                clear hF hlim hJ
                go_simp
                exact hk
              | 11, ho =>
                simp only [List.getElem?_toArray, List.getElem?_cons_zero, List.getElem?_cons_succ, Option.some.injEq] at ho
                subst ho
                have e38 := hF.pure 9 38 (.slice (some ⟨g, 0, none⟩) k c6) rfl rfl rfl rfl
                have e39 := hF.pure 10 39 (.int .i64 (j : Int)) rfl rfl rfl rfl
                simp only [Act.eval] at e38 e39
                clear hF hlim hJ
                go_simp
                exact hk
              | 12, ho => simp at hc
              | 13, ho => simp at hc
              | i + 14, ho => simp at ho
            · intro p c' o hp ho a w' us K' hl hJ hF hk
              match p, hp with
              | 0, hp =>
                obtain rfl : 4 = c' := by simpa using hp
                simp only [List.getElem?_toArray, List.getElem?_cons_zero, List.getElem?_cons_succ, Option.some.injEq] at ho
                subst ho
                obtain rfl : us = [] := List.eq_nil_of_length_eq_zero hl
                have e29 := hF.pure 0 29 (.slice none 0 0) rfl rfl rfl rfl
                have e32 := hF.pure 3 32 (.slice (some ⟨g, 0, none⟩) j c6) rfl rfl rfl rfl
                have hsW := hJ.1.size
                exact wp_appendS (.tmp 29) (.tmp 32) 24 rfl info_evtI Tryz.underlying24 rfl (by decide) (base := W.heap.size) (v := .slice none 0 0) (n := 0) (xs := []) ⟨rfl, .inl ⟨rfl, rfl⟩⟩ e29 e32 (Sl.ext (Cells.stays _) HS0.out hJ.1) EH.len EH.ones (by omega) (by unfold maxLen; omega) (by omega) (fun v' w'' ho hg => hk _ _ ⟨hJ.1.grown hg (fun q hq => by cases hq), by simpa using ho⟩)
              | 1, hp =>
                obtain rfl : 6 = c' := by simpa using hp
                simp only [List.getElem?_toArray, List.getElem?_cons_zero, List.getElem?_cons_succ, Option.some.injEq] at ho
                subst ho
                obtain ⟨u0, rfl⟩ := list_1 hl
                have e34 := hF.pure 5 34 (.agg #[.int .i64 x.id, .int .i64 x.inn, .int .i64 x.out, .string x.region, .int .u8 x.kind, .string x.speaker, .slice A' n' c']) rfl rfl rfl rfl
                refine wp_call1 rfl e34 Tryz.call77 (HCl.out w' hJ.1) ?_
                rintro en w2 ⟨A5, c5, rfl, hnc5, hrf5, hx5⟩
                exact ⟨_, rfl, hk _ w2 ⟨hJ.1.trans hx5, own_ext hJ.2 hx5, A5, c5, rfl, hnc5, hrf5.le hJ.1.size⟩⟩
              | 2, hp =>
                obtain rfl : 7 = c' := by simpa using hp
                simp only [List.getElem?_toArray, List.getElem?_cons_zero, List.getElem?_cons_succ, Option.some.injEq] at ho
                subst ho
                obtain ⟨u0, u1, rfl⟩ := list_2 hl
                obtain ⟨hx, ho, A5, c5, rfl, hnc5, hrf5⟩ := hJ
                have e35 := hF.link 1 6 35 _ rfl rfl rfl rfl
                simp only [Act.eval, Ev.cells] at e35
                have e35b := e35
                rw [Array.getD_eq_getD_getElem?] at e35b
                have HK := Lib.hid (hk (.slice (some ⟨w'.heap.size, 0, none⟩) 1 1) (w'.alloc (.cells #[.int .i64 x.id, .int .i64 x.inn, .int .i64 x.out, .string x.region, .int .u8 x.kind, .string x.speaker, .slice A5 n' c5] 66)) ⟨hx.alloc _, own_ext ho ((Ext.refl w').alloc _), A5, c5, w'.heap.size, hnc5, hrf5.ext ((Ext.refl w').alloc _), rfl, Blk.new w' _ _⟩)
                clear hk hF
                go_simp
                exact HK.out
              | 3, hp =>
                obtain rfl : 8 = c' := by simpa using hp
                simp only [List.getElem?_toArray, List.getElem?_cons_zero, List.getElem?_cons_succ, Option.some.injEq] at ho
                subst ho
                obtain ⟨u0, u1, u2, rfl⟩ := list_3 hl
                obtain ⟨hx, ho, A5, c5, g5, hnc5, hrf5, rfl, hb5⟩ := hJ
                have hsW := hx.size
                have e33 := hF.link 0 4 33 _ rfl rfl rfl rfl
                have e36 := hF.link 2 7 36 _ rfl rfl rfl rfl
                exact wp_append1a (.tmp 33) (.tmp 36) 24 rfl info_evtI Tryz.underlying24 rfl (by decide) ho e33 g5 _ e36 hb5 (by exact rfl) (by simp [Ev.cells, Value.oneCell']) (by omega) (by unfold maxLen; omega) (by omega) (fun v' w'' ho' hg _ => hk _ _ ⟨hx.grown hg (fun q hq => own_lt ho q hq), A5, c5, hnc5, hrf5.kb (KB.grown hg (own_typed ho) (by decide)) (KB.grown hg (own_typed ho) (by decide)), ho'⟩)
              | 4, hp =>
                obtain rfl : 12 = c' := by simpa using hp
                simp only [List.getElem?_toArray, List.getElem?_cons_zero, List.getElem?_cons_succ, Option.some.injEq] at ho
                subst ho
                obtain ⟨u0, u1, u2, u3, rfl⟩ := list_4 hl
                obtain ⟨hx, A5, c5, hnc5, hrf5, ho⟩ := hJ
                have hsW := hx.size
                have e37 := hF.link 3 8 37 _ rfl rfl rfl rfl
                have e40 := hF.pure 11 40 (.slice A1 (k - j) (c6 - j)) rfl rfl rfl rfl
                exact wp_appendS (.tmp 37) (.tmp 40) 24 rfl info_evtI Tryz.underlying24 rfl (by decide) ho e37 e40 (Sl.ext (Cells.stays _) HS1.out hx) EH.len EH.ones (by omega) (by unfold maxLen; omega) (by omega) (fun v' w'' ho' hg => hk _ _ ⟨hx.grown hg (fun q hq => own_lt ho q hq), A5, c5, hnc5, hrf5.kb (KB.grown hg (own_typed ho) (by decide)) (KB.grown hg (own_typed ho) (by decide)), ho'⟩)
              | 5, hp =>
                obtain rfl : 13 = c' := by simpa using hp
                simp only [List.getElem?_toArray, List.getElem?_cons_zero, List.getElem?_cons_succ, Option.some.injEq] at ho
                subst ho
                obtain ⟨u0, u1, u2, u3, u4, rfl⟩ := list_5 hl
                have e41 := hF.link 4 12 41 _ rfl rfl rfl rfl
                exact wp_assignx _ _ rfl e41 (hk _ _ ⟨hJ.1, rfl, hJ.2⟩)
              | p + 6, hp => simp at hp
            intro us w9 hl hJ
            obtain ⟨u0, u1, u2, u3, u4, u5, rfl⟩ := list_6 hl
            first | (rename_i hK; refine hK _ _ ?_; clear hK) | (rename_i hK hK_1; refine hK _ _ ?_; clear hK) | (rename_i hK hK_1 hK_2; refine hK _ _ ?_; clear hK) | (rename_i hK hK_1 hK_2 hK_3; refine hK _ _ ?_; clear hK)
            generalize hL : frameL _ _ _ _ = L
            obtain rfl : L = [(29, .slice none 0 0), (30, .slice (some ⟨g, 0, none⟩) k c6), (31, .int .i64 (j : Int)), (32, .slice (some ⟨g, 0, none⟩) j c6), (33, u0), (34, .agg #[.int .i64 x.id, .int .i64 x.inn, .int .i64 x.out, .string x.region, .int .u8 x.kind, .string x.speaker, .slice A' n' c']), (35, u1), (36, u2), (37, u3), (38, .slice (some ⟨g, 0, none⟩) k c6), (39, .int .i64 (j : Int)), (40, .slice A1 (k - j) (c6 - j)), (41, u4), (7, u5)] := hL.symm.trans (by kernel_rfl)
            clear hL hl
            simp only [Act.put, List.foldl_cons, List.foldl_nil, List.setIfInBounds_toArray, List.set_cons_zero, List.set_cons_succ]
            obtain ⟨hx9, rfl, A5, c5, hnc5, hrf5, ho9⟩ := hJ
            have hin : EvsOwn w9 w.heap.size u5 (k + 1) (srtE (l.take (k + 1))) := by
              have hsr := Stb.sortS_snoc (lt := lessB) (l.take k) x
              rw [← take_snoc' l k x HXx.out] at hsr
              have hsp := Stb.insS_split lessB_sw (srtE (l.take k)) x j (Stb.sortS_spec lessB_sw (l.take k)).1 (by rw [HMl.out]; exact hjk) HGt.out HLt.out
              have hfin : srtE (l.take (k + 1)) = (srtE (l.take k)).take j ++ x :: (srtE (l.take k)).drop j := hsr.trans hsp
              rw [hfin]
              exact evs_insert (h := EH.of x A5 n' c5) HXW.out hx9 HHl.out HMl.out HGd.out ⟨rfl, hnc5, hn24, hrf5⟩ (by have ho8 : w9.ownsRow W.heap.size 66 7 u5 (j + 1 + (k - j)) ((hs.take j).flatMap EH.vals ++ (EH.of x A5 n' c5).vals ++ (hs.drop j).flatMap EH.vals) := ho9; rw [show j + 1 + (k - j) = k + 1 by omega] at ho8; simpa [List.append_assoc] using ho8)
            clear hrf5 ho9 hnc5
            go_wp2_with fail
            exact ⟨⟨k + 1, by omega, by go_num, HXW.out.trans hx9, hin⟩, by simp [intOf]; omega⟩
          · have hjz : (0 : Int) < (j : Int) := by omega
            have hjz2 : 0 < j := by omega
            obtain ⟨jm, hjm⟩ : ∃ jm, jm = j - 1 := ⟨_, rfl⟩
            have hj1 : (j : Int) - 1 = (jm : Int) := by omega
            have hjl : jm < k := by omega
            obtain ⟨b6, off6, y, B', m', d', hA6, hy, hyat, f0, f1, f2, f3, f4, f5, f6⟩ := ((HA6.out.ext HX1.out).ext HX2.out).at_ev hjl
            cases hA6
            have HY : Hid ((srtE (l.take k))[j - 1]? = some y) := by show _ = _; rw [← hjm]; exact hy
            have HLs := Lib.hid (fun (z : EW wr) => RLess_any x y A' n' c' B' m' d' z.w)
            have HJm := Lib.hid hjm
            unfold Ev.cells at HLs
            simp only [Nat.zero_add] at f0 f1 f2 f3 f4 f5 f6
            have r0 := fun (z : EW wr) (o : Nat) => (HB2.out.ext z.ext).cell o
            have r1 := fun (z : EW wr) => z.ext.cell f0
            have r2 := fun (z : EW wr) => z.ext.cell f1
            have r3 := fun (z : EW wr) => z.ext.cell f2
            have r4 := fun (z : EW wr) => z.ext.cell f3
            have r5 := fun (z : EW wr) => z.ext.cell f4
            have r6 := fun (z : EW wr) => z.ext.cell f5
            have r7 := fun (z : EW wr) => z.ext.cell f6
            clear hjm hy hyat f0 f1 f2 f3 f4 f5 f6
            cases hls : lessB x y
            · have HLt : Hid (j = 0 ∨ ∀ z, (srtE (l.take k))[j - 1]? = some z → lessB x z = false) := .inr (fun z hz => by rw [HY.out] at hz; cases hz; exact hls)
              rw [hls] at HLs
              clear hls
              go_wp2_with fail
              refine wp_region_ew wr (Ext.refl _) (by kernel_rfl) (by kernel_rfl) ?_
              repeat (go_big_quiet_step ((go_at_call 102; exact EW.calls _ (HLs.out _))))
              refine wpQuiet_nil ?_
              rintro w9 ⟨⟨_, hx9⟩, rfl⟩
              try dsimp only
              clear r0 r1 r2 r3 r4 r5 r6 r7 HLs
              have HXe : Hid (Ext w w9) := HXr.out.trans (HX1.out.trans (HX2.out.trans hx9))
              have HEve : Hid (EvsOwn w9 w.heap.size (.slice (some ⟨g, 0, none⟩) k c6) k (srtE (l.take k))) := ((HEv.out.ext HX1.out).ext HX2.out).ext hx9
              have HBxe := Lib.hid (HB2.out.ext hx9)
              have HCle : Hid (∀ w', Ext w9 w' → Calls Tryz.prog 77 #[.agg #[.int .i64 x.id, .int .i64 x.inn, .int .i64 x.out, .string x.region, .int .u8 x.kind, .string x.speaker, .slice A' n' c']] w' (EClPost x n' w')) := fun w' hx => HCn.out w' (HX1.out.trans (HX2.out.trans (hx9.trans hx)))
              clear HX2 hx9 HB2
              go_wp2_with fail
              obtain ⟨W, hW⟩ : ∃ W, W = w9 := ⟨_, rfl⟩
              have HXW : Hid (Ext w W) := by show Ext _ _; rw [hW]; exact HXe.out
              have HEvW : Hid (EvsOwn W w.heap.size (.slice (some ⟨g, 0, none⟩) k c6) k (srtE (l.take k))) := by show EvsOwn _ _ _ _ _; rw [hW]; exact HEve.out
              have HBx : Hid (Blk W gx 66 #[.int .i64 x.id, .int .i64 x.inn, .int .i64 x.out, .string x.region, .int .u8 x.kind, .string x.speaker, .slice A' n' c']) := by show Blk _ _ _ _; rw [hW]; exact HBxe.out
              have HCl : Hid (∀ w', Ext W w' → Calls Tryz.prog 77 #[.agg #[.int .i64 x.id, .int .i64 x.inn, .int .i64 x.out, .string x.region, .int .u8 x.kind, .string x.speaker, .slice A' n' c']] w' (EClPost x n' w')) := by show ∀ w', _ → _; rw [hW]; exact fun w' hx => HCle.out w' hx
              rw [← hW]
              clear hW HXe HEve HBxe HCle
              obtain ⟨hs, hown, hh, hM, hgd⟩ := HEvW.out
              obtain ⟨A9, c9, hv9, hc9, hm9, hsl9, -⟩ := own_sl (f := EH.vals) (size := 7) EH.len hh hown
              cases hv9
              have HS0 : Hid (Sl W 7 (Cells EH.vals) (some ⟨g, 0, none⟩) j (hs.take j)) := sl_take hsl9 hjk
              obtain ⟨A1, hA1, hsl1⟩ : ∃ A1, (if c6 = j then (some ⟨g, 0, none⟩ : Option Addr) else some ⟨g, j * 7, none⟩) = A1 ∧ Sl W 7 (Cells EH.vals) A1 (k - j) (hs.drop j) := ⟨_, rfl, sl_drop hsl9 hjk hc9⟩
              have HS1 := Lib.hid hsl1
              have HGd := Lib.hid hgd
              have HMl := Lib.hid hM
              have HHl := Lib.hid hh
              have hjc : 0 ≤ (j : Int) ∧ (j : Int) ≤ (c6 : Int) := by omega
              have hjk2 : 0 ≤ (j : Int) ∧ (j : Int) ≤ (k : Int) := by omega
              have hjc2 : j ≤ c6 := by omega
              clear hgd hown hM hh hsl9 hsl1
              go_upto_region 9 with fail
              refine wp_region_links [some 29, some 30, some 31, some 32, some 33, some 34, some 35, some 36, some 37, some 38, some 39, some 40, some 41, some 7] [[], [], [], [1, 2], [0, 3], [], [5, 4], [6], [4, 7, 6], [], [], [9, 10], [8, 11, 8], [12, 12, 0, 1, 2, 3, 4, 5, 6, 7, 8, 9, 10, 11, 12]] [4, 6, 7, 8, 12, 13] [.slice none 0 0, .slice (some ⟨g, 0, none⟩) k c6, .int .i64 (j : Int), .slice (some ⟨g, 0, none⟩) j c6, undef, .agg #[.int .i64 x.id, .int .i64 x.inn, .int .i64 x.out, .string x.region, .int .u8 x.kind, .string x.speaker, .slice A' n' c'], undef, undef, undef, .slice (some ⟨g, 0, none⟩) k c6, .int .i64 (j : Int), .slice A1 (k - j) (c6 - j), undef, undef] (InsJ W hs j (k - j) x n') (by kernel_rfl) (by kernel_rfl) (by kernel_rfl) (by kernel_rfl) (by kernel_rfl) (by kernel_rfl) (by kernel_rfl) (by decide) ?_ ?_ ?_ ?_
              · exact ⟨(Ext.refl W).drew, trivial⟩
              · intro i o ho hc a w' us K' hJ hF hlim hk
                match i, ho with
                | 0, ho =>
                  simp only [List.getElem?_toArray, List.getElem?_cons_zero, List.getElem?_cons_succ, Option.some.injEq] at ho
                  subst ho
                  have e7 := hF.olds 5 13 7 (.slice none 0 0) rfl rfl (hlim 5 13 rfl rfl) rfl
                  simp only [Act.eval] at e7
                  clear hF hlim hJ
                  go_simp
                  exact hk
                | 1, ho =>
                  simp only [List.getElem?_toArray, List.getElem?_cons_zero, List.getElem?_cons_succ, Option.some.injEq] at ho
                  subst ho
                  have e3 := hF.old 3 (.slice (some ⟨g, 0, none⟩) k c6) rfl rfl
                  simp only [Act.eval] at e3
                  clear hF hlim hJ
                  go_simp
                  exact hk
                | 2, ho =>
                  simp only [List.getElem?_toArray, List.getElem?_cons_zero, List.getElem?_cons_succ, Option.some.injEq] at ho
                  subst ho
                  have e6 := hF.old 6 (.int .i64 (j : Int)) rfl rfl
                  simp only [Act.eval] at e6
                  clear hF hlim hJ
                  go_simp
                  exact hk
                | 3, ho =>
                  simp only [List.getElem?_toArray, List.getElem?_cons_zero, List.getElem?_cons_succ, Option.some.injEq] at ho
                  subst ho
                  have e30 := hF.pure 1 30 (.slice (some ⟨g, 0, none⟩) k c6) rfl rfl rfl rfl
                  have e31 := hF.pure 2 31 (.int .i64 (j : Int)) rfl rfl rfl rfl
                  simp only [Act.eval] at e30 e31
                  clear hF hlim hJ
                  go_simp
                  exact hk
                | 4, ho => simp at hc
                | 5, ho =>
                  simp only [List.getElem?_toArray, List.getElem?_cons_zero, List.getElem?_cons_succ, Option.some.injEq] at ho
                  subst ho
                  have e5 := hF.old 5 (.pointer (some ⟨gx, 0, none⟩)) rfl rfl
                  exact wp_loadBk 66 (.tmp 5) rfl _ 66 _ _ e5 (HBx.out.ext hJ.1) Tryz.underlying66 rfl (by exact size_event) hk
                | 6, ho => simp at hc
                | 7, ho => simp at hc
                | 8, ho => simp at hc
                | 9, ho =>
                  simp only [List.getElem?_toArray, List.getElem?_cons_zero, List.getElem?_cons_succ, Option.some.injEq] at ho
                  subst ho
                  have e3 := hF.old 3 (.slice (some ⟨g, 0, none⟩) k c6) rfl rfl
                  simp only [Act.eval] at e3
                  clear hF hlim hJ
                  go_simp
                  exact hk
                | 10, ho =>
                  simp only [List.getElem?_toArray, List.getElem?_cons_zero, List.getElem?_cons_succ, Option.some.injEq] at ho
                  subst ho
                  have e6 := hF.old 6 (.int .i64 (j : Int)) rfl rfl
                  simp only [Act.eval] at e6
                  clear hF hlim hJ
                  go_simp
                  exact hk
                | 11, ho =>
                  simp only [List.getElem?_toArray, List.getElem?_cons_zero, List.getElem?_cons_succ, Option.some.injEq] at ho
                  subst ho
                  have e38 := hF.pure 9 38 (.slice (some ⟨g, 0, none⟩) k c6) rfl rfl rfl rfl
                  have e39 := hF.pure 10 39 (.int .i64 (j : Int)) rfl rfl rfl rfl
                  simp only [Act.eval] at e38 e39
                  clear hF hlim hJ
                  go_simp
                  exact hk
                | 12, ho => simp at hc
                | 13, ho => simp at hc
                | i + 14, ho => simp at ho
              · intro p c' o hp ho a w' us K' hl hJ hF hk
                match p, hp with
                | 0, hp =>
                  obtain rfl : 4 = c' := by simpa using hp
                  simp only [List.getElem?_toArray, List.getElem?_cons_zero, List.getElem?_cons_succ, Option.some.injEq] at ho
                  subst ho
                  obtain rfl : us = [] := List.eq_nil_of_length_eq_zero hl
                  have e29 := hF.pure 0 29 (.slice none 0 0) rfl rfl rfl rfl
                  have e32 := hF.pure 3 32 (.slice (some ⟨g, 0, none⟩) j c6) rfl rfl rfl rfl
                  have hsW := hJ.1.size
                  exact wp_appendS (.tmp 29) (.tmp 32) 24 rfl info_evtI Tryz.underlying24 rfl (by decide) (base := W.heap.size) (v := .slice none 0 0) (n := 0) (xs := []) ⟨rfl, .inl ⟨rfl, rfl⟩⟩ e29 e32 (Sl.ext (Cells.stays _) HS0.out hJ.1) EH.len EH.ones (by omega) (by unfold maxLen; omega) (by omega) (fun v' w'' ho hg => hk _ _ ⟨hJ.1.grown hg (fun q hq => by cases hq), by simpa using ho⟩)
                | 1, hp =>
                  obtain rfl : 6 = c' := by simpa using hp
                  simp only [List.getElem?_toArray, List.getElem?_cons_zero, List.getElem?_cons_succ, Option.some.injEq] at ho
                  subst ho
                  obtain ⟨u0, rfl⟩ := list_1 hl
                  have e34 := hF.pure 5 34 (.agg #[.int .i64 x.id, .int .i64 x.inn, .int .i64 x.out, .string x.region, .int .u8 x.kind, .string x.speaker, .slice A' n' c']) rfl rfl rfl rfl
                  refine wp_call1 rfl e34 Tryz.call77 (HCl.out w' hJ.1) ?_
                  rintro en w2 ⟨A5, c5, rfl, hnc5, hrf5, hx5⟩
                  exact ⟨_, rfl, hk _ w2 ⟨hJ.1.trans hx5, own_ext hJ.2 hx5, A5, c5, rfl, hnc5, hrf5.le hJ.1.size⟩⟩
                | 2, hp =>
                  obtain rfl : 7 = c' := by simpa using hp
                  simp only [List.getElem?_toArray, List.getElem?_cons_zero, List.getElem?_cons_succ, Option.some.injEq] at ho
                  subst ho
                  obtain ⟨u0, u1, rfl⟩ := list_2 hl
                  obtain ⟨hx, ho, A5, c5, rfl, hnc5, hrf5⟩ := hJ
                  have e35 := hF.link 1 6 35 _ rfl rfl rfl rfl
                  simp only [Act.eval, Ev.cells] at e35
                  have e35b := e35
                  rw [Array.getD_eq_getD_getElem?] at e35b
                  have HK := Lib.hid (hk (.slice (some ⟨w'.heap.size, 0, none⟩) 1 1) (w'.alloc (.cells #[.int .i64 x.id, .int .i64 x.inn, .int .i64 x.out, .string x.region, .int .u8 x.kind, .string x.speaker, .slice A5 n' c5] 66)) ⟨hx.alloc _, own_ext ho ((Ext.refl w').alloc _), A5, c5, w'.heap.size, hnc5, hrf5.ext ((Ext.refl w').alloc _), rfl, Blk.new w' _ _⟩)
                  clear hk hF
                  go_simp
                  exact HK.out
                | 3, hp =>
                  obtain rfl : 8 = c' := by simpa using hp
                  simp only [List.getElem?_toArray, List.getElem?_cons_zero, List.getElem?_cons_succ, Option.some.injEq] at ho
                  subst ho
                  obtain ⟨u0, u1, u2, rfl⟩ := list_3 hl
                  obtain ⟨hx, ho, A5, c5, g5, hnc5, hrf5, rfl, hb5⟩ := hJ
                  have hsW := hx.size
                  have e33 := hF.link 0 4 33 _ rfl rfl rfl rfl
                  have e36 := hF.link 2 7 36 _ rfl rfl rfl rfl
                  exact wp_append1a (.tmp 33) (.tmp 36) 24 rfl info_evtI Tryz.underlying24 rfl (by decide) ho e33 g5 _ e36 hb5 (by exact rfl) (by simp [Ev.cells, Value.oneCell']) (by omega) (by unfold maxLen; omega) (by omega) (fun v' w'' ho' hg _ => hk _ _ ⟨hx.grown hg (fun q hq => own_lt ho q hq), A5, c5, hnc5, hrf5.kb (KB.grown hg (own_typed ho) (by decide)) (KB.grown hg (own_typed ho) (by decide)), ho'⟩)
                | 4, hp =>
                  obtain rfl : 12 = c' := by simpa using hp
                  simp only [List.getElem?_toArray, List.getElem?_cons_zero, List.getElem?_cons_succ, Option.some.injEq] at ho
                  subst ho
                  obtain ⟨u0, u1, u2, u3, rfl⟩ := list_4 hl
                  obtain ⟨hx, A5, c5, hnc5, hrf5, ho⟩ := hJ
                  have hsW := hx.size
                  have e37 := hF.link 3 8 37 _ rfl rfl rfl rfl
                  have e40 := hF.pure 11 40 (.slice A1 (k - j) (c6 - j)) rfl rfl rfl rfl
                  exact wp_appendS (.tmp 37) (.tmp 40) 24 rfl info_evtI Tryz.underlying24 rfl (by decide) ho e37 e40 (Sl.ext (Cells.stays _) HS1.out hx) EH.len EH.ones (by omega) (by unfold maxLen; omega) (by omega) (fun v' w'' ho' hg => hk _ _ ⟨hx.grown hg (fun q hq => own_lt ho q hq), A5, c5, hnc5, hrf5.kb (KB.grown hg (own_typed ho) (by decide)) (KB.grown hg (own_typed ho) (by decide)), ho'⟩)
                | 5, hp =>
                  obtain rfl : 13 = c' := by simpa using hp
                  simp only [List.getElem?_toArray, List.getElem?_cons_zero, List.getElem?_cons_succ, Option.some.injEq] at ho
                  subst ho
                  obtain ⟨u0, u1, u2, u3, u4, rfl⟩ := list_5 hl
                  have e41 := hF.link 4 12 41 _ rfl rfl rfl rfl
                  exact wp_assignx _ _ rfl e41 (hk _ _ ⟨hJ.1, rfl, hJ.2⟩)
                | p + 6, hp => simp at hp
              intro us w9 hl hJ
              obtain ⟨u0, u1, u2, u3, u4, u5, rfl⟩ := list_6 hl
              first | (rename_i hK; refine hK _ _ ?_; clear hK) | (rename_i hK hK_1; refine hK _ _ ?_; clear hK) | (rename_i hK hK_1 hK_2; refine hK _ _ ?_; clear hK) | (rename_i hK hK_1 hK_2 hK_3; refine hK _ _ ?_; clear hK)
              generalize hL : frameL _ _ _ _ = L
              obtain rfl : L = [(29, .slice none 0 0), (30, .slice (some ⟨g, 0, none⟩) k c6), (31, .int .i64 (j : Int)), (32, .slice (some ⟨g, 0, none⟩) j c6), (33, u0), (34, .agg #[.int .i64 x.id, .int .i64 x.inn, .int .i64 x.out, .string x.region, .int .u8 x.kind, .string x.speaker, .slice A' n' c']), (35, u1), (36, u2), (37, u3), (38, .slice (some ⟨g, 0, none⟩) k c6), (39, .int .i64 (j : Int)), (40, .slice A1 (k - j) (c6 - j)), (41, u4), (7, u5)] := hL.symm.trans (by kernel_rfl)
              clear hL hl
              simp only [Act.put, List.foldl_cons, List.foldl_nil, List.setIfInBounds_toArray, List.set_cons_zero, List.set_cons_succ]
              obtain ⟨hx9, rfl, A5, c5, hnc5, hrf5, ho9⟩ := hJ
              have hin : EvsOwn w9 w.heap.size u5 (k + 1) (srtE (l.take (k + 1))) := by
                have hsr := Stb.sortS_snoc (lt := lessB) (l.take k) x
                rw [← take_snoc' l k x HXx.out] at hsr
                have hsp := Stb.insS_split lessB_sw (srtE (l.take k)) x j (Stb.sortS_spec lessB_sw (l.take k)).1 (by rw [HMl.out]; exact hjk) HGt.out HLt.out
                have hfin : srtE (l.take (k + 1)) = (srtE (l.take k)).take j ++ x :: (srtE (l.take k)).drop j := hsr.trans hsp
                rw [hfin]
                exact evs_insert (h := EH.of x A5 n' c5) HXW.out hx9 HHl.out HMl.out HGd.out ⟨rfl, hnc5, hn24, hrf5⟩ (by have ho8 : w9.ownsRow W.heap.size 66 7 u5 (j + 1 + (k - j)) ((hs.take j).flatMap EH.vals ++ (EH.of x A5 n' c5).vals ++ (hs.drop j).flatMap EH.vals) := ho9; rw [show j + 1 + (k - j) = k + 1 by omega] at ho8; simpa [List.append_assoc] using ho8)
              clear hrf5 ho9 hnc5
              go_wp2_with fail
              exact ⟨⟨k + 1, by omega, by go_num, HXW.out.trans hx9, hin⟩, by simp [intOf]; omega⟩
            · have HLt := Lib.hid hls
              rw [hls] at HLs
              clear hls
              go_wp2_with fail
              refine wp_region_ew wr (Ext.refl _) (by kernel_rfl) (by kernel_rfl) ?_
              repeat (go_big_quiet_step ((go_at_call 102; exact EW.calls _ (HLs.out _))))
              refine wpQuiet_nil ?_
              rintro w9 ⟨⟨_, hx9⟩, rfl⟩
              try dsimp only
              clear r0 r1 r2 r3 r4 r5 r6 r7 HLs
              go_wp2_with fail
              refine ⟨⟨jm, rfl, by omega, HX2.out.trans hx9, fun p z h1 h2 => ?_⟩, by simp [intOf]; omega⟩
              by_cases hp : p = jm
              · subst hp
                rw [HJm.out, HY.out] at h2
                cases h2
                exact HLt.out
              · exact HGt.out p z (by have := HJm.out; omega) h2
    · have hkn : k = n := by omega
      subst hkn
      have htk : l.take k = l := List.take_of_length_le (by rw [HEl.out]; omega)
      have hev := HEv.out
      rw [htk] at hev
      have HEv2 := Lib.hid hev
      clear hev htk HEv
      go_wp2_with fail
      go_ret
      exact ⟨_, rfl, HEv2.out, HXr.out⟩
end Go.Proofs.YtagfedbdakmlgaaGreatDoor
