/- Laid together: The walk of the reference's Open. -/
import Derived.Test.YtagfedbdakmlgaaGreatDoorLi15
import Derived.Test.YtagfedbdakmlgaaGreatDoorLi18
import Derived.Test.YtagfedbdakmlgaaGreatDoorLi19

/-! OpnR -/
namespace Go.Proofs.YtagfedbdakmlgaaGreatDoor
set_option linter.unusedVariables false
set_option linter.unusedSimpArgs false
open Go.RowKit
/-- the open ones among the first k comments, in order -/
def opS (evs : List Ev) (l : List Com) (k : Nat) : List Com := srtC evs (openL (l.take k))
theorem opS_skip {evs : List Ev} {l : List Com} {k : Nat} {x : Com} (hx : l[k]? = some x) (hg : x.gone = true) : opS evs l (k + 1) = opS evs l k := by
  unfold opS openL
  rw [take_snoc' l k x hx, List.filter_append]
  simp [hg]
theorem opS_keep {evs : List Ev} {l : List Com} {k : Nat} {x : Com} (hx : l[k]? = some x) (hg : x.gone = false) : opS evs l (k + 1) = Stb.insS (ltC evs) x (opS evs l k) := by
  unfold opS openL srtC
  rw [take_snoc' l k x hx, List.filter_append]
  simp only [List.filter_cons, hg, Bool.not_false, if_true, List.filter_nil]
  exact Stb.sortS_snoc _ _
theorem opS_len (evs : List Ev) (l : List Com) (k : Nat) : (opS evs l k).length ≤ l.length := by
  unfold opS
  rw [(srtC_perm _ _).length_eq]
  unfold openL
  exact Nat.le_trans (List.length_filter_le _ _) (by rw [List.length_take]; omega)
def OiRel (evs : List Ev) (S : List Com) (x : Com) (m : Nat) (W : World) (s6 : Value) (wr : World) : Prop := ∃ j : Nat, s6 = .int .i64 j ∧ j ≤ m ∧ Ext W wr ∧ (∀ (p : Nat) (y : Com), j ≤ p → S[p]? = some y → ltC evs x y = true)
/-- the three appends, in a drawn region: a slice of one comment is built at whatever time -/
def OiJ (W : World) (S : List Com) (j m : Nat) (x : Com) (us : List Value) (gs : Nat → Option Nat) (w' : World) : Prop := Ext W w' ∧ (us.length ≤ 1 → ∀ g, gs 6 = some g → Blk w' g 78 #[.int .i64 x.id, .int .i64 x.ev, .int .i64 x.fr, .int .i64 x.til, .string x.author, .string x.text, .bool x.done, .bool x.lost]) ∧ match us with
  | [] => True
  | [u0] => w'.ownsRow W.heap.size 78 8 u0 j ((S.take j).flatMap Com.vals)
  | [_, u1] => w'.ownsRow W.heap.size 78 8 u1 (j + 1) ((S.take j).flatMap Com.vals ++ (#[.int .i64 x.id, .int .i64 x.ev, .int .i64 x.fr, .int .i64 x.til, .string x.author, .string x.text, .bool x.done, .bool x.lost] : Array Value).toList)
  | [_, _, u2] => w'.ownsRow W.heap.size 78 8 u2 (j + 1 + m) ((S.take j).flatMap Com.vals ++ (#[.int .i64 x.id, .int .i64 x.ev, .int .i64 x.fr, .int .i64 x.til, .string x.author, .string x.text, .bool x.done, .bool x.lost] : Array Value).toList ++ (S.drop j).flatMap Com.vals)
  | [_, _, u2, u3] => u3 = u2 ∧ w'.ownsRow W.heap.size 78 8 u2 (j + 1 + m) ((S.take j).flatMap Com.vals ++ (#[.int .i64 x.id, .int .i64 x.ev, .int .i64 x.fr, .int .i64 x.til, .string x.author, .string x.text, .bool x.done, .bool x.lost] : Array Value).toList ++ (S.drop j).flatMap Com.vals)
  | _ => False
theorem OiJ.start {S : List Com} {j m : Nat} {x : Com} (W : World) : OiJ W S j m x [] (fun _ => none) W.drew := ⟨(Ext.refl W).drew, fun _ g h => (by cases h), trivial⟩
theorem OiJ.alo {W w' : World} {S : List Com} {j m : Nat} {x : Com} {us : List Value} {gs : Nat → Option Nat} (h : OiJ W S j m x us gs w') (hl : us.length ≤ 1) : OiJ W S j m x us (upd gs 6 w'.heap.size) (w'.alloc (.cells #[.int .i64 x.id, .int .i64 x.ev, .int .i64 x.fr, .int .i64 x.til, .string x.author, .string x.text, .bool x.done, .bool x.lost] 78)) := by
  obtain ⟨h1, h2, h3⟩ := h
  refine ⟨h1.alloc _, fun _ g hg => ?_, ?_⟩
  · rw [upd_self] at hg
    obtain rfl : w'.heap.size = g := Option.some.inj hg
    exact Blk.new w' _ _
  · match us, hl, h3 with
    | [], _, _ => exact trivial
    | [u0], _, h3 => exact own_ext h3 ((Ext.refl w').alloc _)
    | _ :: _ :: _, hl, _ => simp at hl
def ROpLoop (d : Doc) (n : Nat) (w : World) (v i : Value) (wr : World) : Prop := ∃ k : Nat, k ≤ n ∧ i = .int .i64 k ∧ Ext w wr ∧ wr.ownsRow w.heap.size 78 8 v (opS d.evs d.coms k).length ((opS d.evs d.coms k).flatMap Com.vals)
set_option maxRecDepth 100000 in
set_option maxHeartbeats 8000000 in
theorem R14Open_any (d : Doc) (h : DocH) (w : World) (hE : Env w) (hat : DocAt w d h) (hf : DocFit d) (hrn : h.rn ≤ 9223372036854775807) (hn : h.en ≤ 1000000) (hcn : h.cn ≤ 1000000) :
    Calls Tryz.prog 54 #[.agg (d.cells h)] w (OpnPost d.opn w) := by
  obtain ⟨W1, hW1⟩ : ∃ W1, W1 = w.alloc (.cells (d.cells h) 27) := ⟨_, rfl⟩
  have HX : Hid (Ext w W1) := by show Ext _ _; rw [hW1]; exact (Ext.refl w).alloc _
  have HB : Hid (Blk W1 w.heap.size 27 (d.cells h)) := by show Blk _ _ _ _; rw [hW1]; exact Blk.new w _ _
  have HCk := Lib.hid (R12Check_any d h W1 (hE.ext HX.out) (hat.ext HX.out) hf hrn hn (by omega))
  have HV1 : d.err ≠ 0 → d.opn = [] := fun h => by unfold Doc.opn; rw [if_pos h]
  have HV2 : d.err = 0 → d.opn = (srtC d.evs (openL d.coms)).map (·.id) := fun h => by unfold Doc.opn; rw [if_neg (by simpa using h)]
  have HAt := Lib.hid hat
  have hnE := hn
  clear hE hat hf hrn
  obtain ⟨hra, nr, hrc, hea, hen, hec, hca, nc, hcc⟩ := h
  unfold Doc.cells at HB HCk hW1 ⊢
  dsimp only at HB HCk hW1 hn hcn hnE ⊢
  go_enter Tryz.func54, Tryz.ntmps54
  go_upto_region 1 with fail
  rw [← hW1]
  clear hW1
  go_wp2_with (refine wpList_loadB rfl 27 (.tmp 1) rfl (w.heap.size) 27 _ _ (by exact rfl) (by exact HB.out) Tryz.underlying27 rfl (by exact size_docI) ?_)
  refine HCk.out.mono ?_
  rintro en w2 ⟨rfl, hx2⟩
  have HX2 := Lib.hid (HX.out.trans hx2)
  have HB2 := Lib.hid (HB.out.ext hx2)
  clear hx2 HX HB HCk
  by_cases he : d.err = 0
  case neg =>
    have hne : (d.err != 0) = true := by simpa using he
    have HV := Lib.hid (HV1 he)
    clear he HV1 HV2
    go_wp2_with fail
    go_ret
    refine ⟨none, 0, ?_, ?_, ?_, HX2.out⟩ <;> rw [HV.out]
    · rfl
    · exact Sl.nil
    · exact Nat.le_refl _
  have HV := Lib.hid (HV2 he)
  rw [he]
  clear he HV1 HV2
  have hcb := fun o => HB2.out.cell o
  have HX0 := Lib.hid HX2.out
  have HD0 := Lib.hid HB2.out
  go_wp2_with fail
  clear hcb
  go_loopw [3, 17] (fun v i wr => ROpLoop d nc w2 v i wr) (fun _ i _ => nc - (intOf i).toNat)
  case atStart => exact ⟨0, Nat.zero_le _, rfl, Ext.refl _, ⟨rfl, .inl ⟨rfl, rfl⟩⟩⟩
  case round =>
    obtain ⟨k, hk, rfl, hx, hown⟩ := hrel
    have hl0 : d.coms.length = nc := HAt.out.coms.len
    have HO := Lib.hid hown
    clear hown
    by_cases hlt : k < nc
    · obtain ⟨b, off, x, hcA, hxx, c0, c1, c2, c3, c4, c5, c6, c7⟩ := (HAt.out.coms.ext (HX0.out.trans hx)).at8 hlt
      subst hcA
      have HXx := Lib.hid hxx
      have hk0 : (0 : Int) ≤ (k : Int) := by omega
      have hk1 : (k : Int) < (nc : Int) := by omega
      have hal := (Ext.refl wr).alloc (.cells #[.int .i64 x.id, .int .i64 x.ev, .int .i64 x.fr, .int .i64 x.til, .string x.author, .string x.text, .bool x.done, .bool x.lost] 78)
      have HB1' := Lib.hid (Blk.new wr 78 #[.int .i64 x.id, .int .i64 x.ev, .int .i64 x.fr, .int .i64 x.til, .string x.author, .string x.text, .bool x.done, .bool x.lost])
      have HXr1' := Lib.hid (hx.trans hal)
      have HEv1' := Lib.hid (own_ext HO.out hal)
      clear hxx
      go_upto_region 7 with fail
      clear c0 c1 c2 c3 c4 c5 c6 c7
      obtain ⟨gx, hgx⟩ : ∃ gx, gx = wr.heap.size := ⟨_, rfl⟩
      obtain ⟨W1, hW1⟩ : ∃ W1, W1 = wr.alloc (.cells #[.int .i64 x.id, .int .i64 x.ev, .int .i64 x.fr, .int .i64 x.til, .string x.author, .string x.text, .bool x.done, .bool x.lost] 78) := ⟨_, rfl⟩
      rw [← hW1] at HB1' HXr1' HEv1' ⊢
      rw [← hgx] at HB1' ⊢
      clear hW1 hgx hal HO hx
      have HB1 := HB1'
      have HXr1 := HXr1'
      have HEv1 := HEv1'
      have HD1 := Lib.hid (HD0.out.ext HXr1.out)
      clear HB1' HXr1' HEv1'
      have hcx := fun o => HB1.out.cell o
      by_cases hgn : x.gone = true
      · have HSk := Lib.hid (opS_skip (evs := d.evs) HXx.out hgn)
        have hg2 : (x.done = true) ∨ (x.done = false ∧ x.lost = true) := by unfold Com.gone at hgn; cases h1 : x.done <;> simp_all
        clear hgn
        rcases hg2 with h1 | ⟨h1, h2⟩
        · rw [h1] at hcx
          go_wp2_with fail
          exact ⟨⟨k + 1, by omega, by go_num, HXr1.out, by rw [HSk.out]; exact HEv1.out⟩, by simp [intOf]; omega⟩
        · rw [h1, h2] at hcx
          go_wp2_with fail
          exact ⟨⟨k + 1, by omega, by go_num, HXr1.out, by rw [HSk.out]; exact HEv1.out⟩, by simp [intOf]; omega⟩
      have hgf : x.gone = false := by simpa using hgn
      have HKeep := Lib.hid (opS_keep (evs := d.evs) HXx.out hgf)
      have h1 : x.done = false := by unfold Com.gone at hgf; cases h1 : x.done <;> simp_all
      have h2 : x.lost = false := by unfold Com.gone at hgf; cases h2 : x.lost <;> simp_all
      rw [h1, h2] at hcx
      clear hgn hgf
      go_upto_region 8 with fail
      clear hcx h1 h2
      have HSp := Lib.hid (Stb.sortS_spec (ltC_sw d.evs) (openL (d.coms.take k))).1
      have hml := opS_len d.evs d.coms k
      change Hid (List.Pairwise _ (opS d.evs d.coms k)) at HSp
      generalize opS d.evs d.coms k = S at *
      obtain ⟨m, hm⟩ : ∃ m, S.length = m := ⟨_, rfl⟩
      have HSl := Lib.hid hm
      rw [hm] at HEv1 hml
      clear hm
      rcases HEv1.out.2 with ⟨hv, hk0'⟩ | ⟨g, c6, cur9, hv, hg9, hb9, hnc9, hcm9, -⟩
      · subst hv
        subst hk0'
        have HSn : Hid (S = []) := List.eq_nil_of_length_eq_zero HSl.out
        go_wp2_with fail
        go_loopw [6] (fun s6 wr2 => OiRel d.evs S x 0 W1 s6 wr2) (fun s _ => (intOf s).toNat)
        case atStart => exact ⟨0, rfl, Nat.le_refl _, Ext.refl _, fun p y h1 h2 => by have := (List.getElem?_eq_some_iff.1 h2).1; have := HSl.out; omega⟩
        case round =>
          obtain ⟨j, rfl, hjk, hx2, hgt⟩ := hrel
          have HGt := Lib.hid hgt
          have HB2 := Lib.hid (HB1.out.ext hx2)
          have HD2 := Lib.hid (HD1.out.ext hx2)
          have HX2 := Lib.hid hx2
          clear hgt hx2
          obtain rfl : j = 0 := by omega
          go_wp2_with fail
          refine wp_region_ew wr (Ext.refl _) (by kernel_rfl) (by kernel_rfl) ?_
          repeat (go_big_quiet_step ((fail)))
          refine wpQuiet_nil ?_
          rintro w9 ⟨⟨_, hx9⟩, rfl⟩
          try dsimp only
          have HXe : Hid (Ext w2 w9) := HXr1.out.trans (HX2.out.trans hx9)
          have HEve : Hid (w9.ownsRow w2.heap.size 78 8 (.slice none 0 0) 0 (S.flatMap Com.vals)) := own_ext (own_ext HEv1.out HX2.out) hx9
          have HBxe := Lib.hid (HB2.out.ext hx9)
          clear HX2 hx9 HB2
          go_wp2_with fail
          obtain ⟨W, hW⟩ : ∃ W, W = w9 := ⟨_, rfl⟩
          have HXW : Hid (Ext w2 W) := by show Ext _ _; rw [hW]; exact HXe.out
          have HEvW : Hid (W.ownsRow w2.heap.size 78 8 (.slice none 0 0) 0 (S.flatMap Com.vals)) := by show World.ownsRow _ _ _ _ _ _ _; rw [hW]; exact HEve.out
          have HBx : Hid (Blk W gx 78 #[.int .i64 x.id, .int .i64 x.ev, .int .i64 x.fr, .int .i64 x.til, .string x.author, .string x.text, .bool x.done, .bool x.lost]) := by show Blk _ _ _ _; rw [hW]; exact HBxe.out
          rw [← hW]
          clear hW HXe HEve HBxe
          have hown := HEvW.out
          have HS0 : Hid (Sl W 8 (Cells Com.vals) none 0 (S.take 0)) := by show Sl _ _ _ _ _ _; exact Sl.nil
          have HS1 : Hid (Sl W 8 (Cells Com.vals) none 0 (S.drop 0)) := by show Sl _ _ _ _ _ _; rw [HSn.out]; exact Sl.nil
          clear hown
          go_upto_region 12 with fail
          refine wp_region_allocS [some 43, some 44, some 45, some 46, some 47, some 48, some 49, some 50, some 51, some 52, some 53, some 54, some 3] [[], [], [], [1, 2], [0, 3], [], [5], [4, 6, 4], [], [], [8, 9], [7, 10, 7], [11, 11, 0, 1, 2, 3, 4, 5, 6, 7, 8, 9, 10, 11]] [4, 7, 11, 12] [6] [.slice none 0 0, .slice none 0 0, .int .i64 0, .slice none 0 0, undef, .agg #[.int .i64 x.id, .int .i64 x.ev, .int .i64 x.fr, .int .i64 x.til, .string x.author, .string x.text, .bool x.done, .bool x.lost], undef, undef, .slice none 0 0, .int .i64 0, .slice none 0 0, undef, undef] (fun _ g => Value.slice (some ⟨g, 0, none⟩) 1 1) (fun _ => .cells #[.int .i64 x.id, .int .i64 x.ev, .int .i64 x.fr, .int .i64 x.til, .string x.author, .string x.text, .bool x.done, .bool x.lost] 78) (OiJ W S 0 0 x) (by kernel_rfl) (by kernel_rfl) (by kernel_rfl) (by kernel_rfl) (by kernel_rfl) (by kernel_rfl) (by kernel_rfl) (by decide) (by kernel_rfl) ?_ ?_ ?_ ?_ ?_ ?_
          · exact OiJ.start W
          · intro i o ho ha a w' us gs K' hF hk
            match i, ho with
            | 0, ho => simp at ha
            | 1, ho => simp at ha
            | 2, ho => simp at ha
            | 3, ho => simp at ha
            | 4, ho => simp at ha
            | 5, ho => simp at ha
            | 6, ho =>
              simp only [List.getElem?_toArray, List.getElem?_cons_zero, List.getElem?_cons_succ, Option.some.injEq] at ho
              subst ho
              exact (by
                have e48 := hF.pure 5 48 (.agg #[.int .i64 x.id, .int .i64 x.ev, .int .i64 x.fr, .int .i64 x.til, .string x.author, .string x.text, .bool x.done, .bool x.lost]) rfl rfl rfl rfl rfl
                simp only [Act.eval] at e48
                have e48b := e48
                rw [Array.getD_eq_getD_getElem?] at e48b
                have HK := Lib.hid hk
                clear hk hF
                go_simp
                exact HK.out)
            | 7, ho => simp at ha
            | 8, ho => simp at ha
            | 9, ho => simp at ha
            | 10, ho => simp at ha
            | 11, ho => simp at ha
            | 12, ho => simp at ha
            | i + 13, ho => simp at ho
          · intro i ha us gs w' hJ hn hlim
            match i, ha with
            | 0, ha => simp at ha
            | 1, ha => simp at ha
            | 2, ha => simp at ha
            | 3, ha => simp at ha
            | 4, ha => simp at ha
            | 5, ha => simp at ha
            | 6, ha => exact hJ.alo (hlim 1 7 rfl rfl)
            | 7, ha => simp at ha
            | 8, ha => simp at ha
            | 9, ha => simp at ha
            | 10, ha => simp at ha
            | 11, ha => simp at ha
            | 12, ha => simp at ha
            | i + 13, ha => simp at ha
          · intro i o ho hc ha a w' us gs K' hJ hF hlim hk
            match i, ho with
            | 0, ho =>
              simp only [List.getElem?_toArray, List.getElem?_cons_zero, List.getElem?_cons_succ, Option.some.injEq] at ho
              subst ho
              have e7 := hF.old 7 (.slice none 0 0) rfl rfl
              simp only [Act.eval] at e7
              clear hF hlim hJ
              go_simp
              exact hk
            | 1, ho =>
              simp only [List.getElem?_toArray, List.getElem?_cons_zero, List.getElem?_cons_succ, Option.some.injEq] at ho
              subst ho
              have e3 := hF.olds 3 12 3 (.slice none 0 0) rfl rfl (hlim 3 12 rfl rfl) rfl
              simp only [Act.eval] at e3
              clear hF hlim hJ
              go_simp
              exact hk
            | 2, ho =>
              simp only [List.getElem?_toArray, List.getElem?_cons_zero, List.getElem?_cons_succ, Option.some.injEq] at ho
              subst ho
              have e6 := hF.old 6 (.int .i64 0) rfl rfl
              simp only [Act.eval] at e6
              clear hF hlim hJ
              go_simp
              exact hk
            | 3, ho =>
              simp only [List.getElem?_toArray, List.getElem?_cons_zero, List.getElem?_cons_succ, Option.some.injEq] at ho
              subst ho
              have e44 := hF.pure 1 44 (.slice none 0 0) rfl rfl rfl rfl rfl
              have e45 := hF.pure 2 45 (.int .i64 0) rfl rfl rfl rfl rfl
              simp only [Act.eval] at e44 e45
              clear hF hlim hJ
              go_simp
              exact hk
            | 4, ho => simp at hc
            | 5, ho =>
              simp only [List.getElem?_toArray, List.getElem?_cons_zero, List.getElem?_cons_succ, Option.some.injEq] at ho
              subst ho
              have e5 := hF.old 5 (.pointer (some ⟨gx, 0, none⟩)) rfl rfl
              exact wp_loadBk 78 (.tmp 5) rfl _ 78 _ _ e5 (HBx.out.ext hJ.1) Tryz.underlying78 rfl (by exact size_comI) hk
            | 6, ho => simp at ha
            | 7, ho => simp at hc
            | 8, ho =>
              simp only [List.getElem?_toArray, List.getElem?_cons_zero, List.getElem?_cons_succ, Option.some.injEq] at ho
              subst ho
              have e3 := hF.olds 3 12 3 (.slice none 0 0) rfl rfl (hlim 3 12 rfl rfl) rfl
              simp only [Act.eval] at e3
              clear hF hlim hJ
              go_simp
              exact hk
            | 9, ho =>
              simp only [List.getElem?_toArray, List.getElem?_cons_zero, List.getElem?_cons_succ, Option.some.injEq] at ho
              subst ho
              have e6 := hF.old 6 (.int .i64 0) rfl rfl
              simp only [Act.eval] at e6
              clear hF hlim hJ
              go_simp
              exact hk
            | 10, ho =>
              simp only [List.getElem?_toArray, List.getElem?_cons_zero, List.getElem?_cons_succ, Option.some.injEq] at ho
              subst ho
              have e51 := hF.pure 8 51 (.slice none 0 0) rfl rfl rfl rfl rfl
              have e52 := hF.pure 9 52 (.int .i64 0) rfl rfl rfl rfl rfl
              simp only [Act.eval] at e51 e52
              clear hF hlim hJ
              go_simp
              exact hk
            | 11, ho => simp at hc
            | 12, ho => simp at hc
            | i + 13, ho => simp at ho
          · intro p c' o hp ho a w' us gs K' hl hJ hF hk
            match p, hp with
            | 0, hp =>
              obtain rfl : 4 = c' := by simpa using hp
              simp only [List.getElem?_toArray, List.getElem?_cons_zero, List.getElem?_cons_succ, Option.some.injEq] at ho
              subst ho
              obtain rfl : us = [] := List.eq_nil_of_length_eq_zero hl
              have e43 := hF.pure 0 43 (.slice none 0 0) rfl rfl rfl rfl rfl
              have e46 := hF.pure 3 46 (.slice none 0 0) rfl rfl rfl rfl rfl
              have hsW := hJ.1.size
              exact wp_appendS (.tmp 43) (.tmp 46) 25 rfl info_comI Tryz.underlying25 rfl (by decide) (base := W.heap.size) (v := .slice none 0 0) (n := 0) (xs := []) ⟨rfl, .inl ⟨rfl, rfl⟩⟩ e43 e46 (Sl.ext (Cells.stays _) HS0.out hJ.1) (fun _ => rfl) com_ones' (by omega) (by unfold maxLen; omega) (by omega) (fun v' w'' ho hg => hk _ _ ⟨hJ.1.grown hg (fun q hq => by cases hq), fun _ g hg6 => (hJ.2.1 (by simp) g hg6).ext ((Ext.refl w').grown hg (fun q hq => by cases hq)), by simpa using ho⟩)
            | 1, hp =>
              obtain rfl : 7 = c' := by simpa using hp
              simp only [List.getElem?_toArray, List.getElem?_cons_zero, List.getElem?_cons_succ, Option.some.injEq] at ho
              subst ho
              obtain ⟨u0, rfl⟩ := list_1 hl
              have e47 := hF.link 0 4 47 _ rfl rfl rfl rfl
              obtain ⟨g49, hg49, e49⟩ := hF.ptr 6 49 rfl rfl rfl rfl
              have e49 : a.eval (.tmp 49) = .slice (some ⟨g49, 0, none⟩) 1 1 := e49
              have hsW := hJ.1.size
              obtain ⟨hxj, hB6, ho6⟩ := hJ
              exact wp_append1a (.tmp 47) (.tmp 49) 25 rfl info_comI Tryz.underlying25 rfl (by decide) ho6 e47 g49 _ e49 (hB6 (by simp) g49 hg49) (by exact rfl) (by simp [Value.oneCell']) (by omega) (by unfold maxLen; omega) (by omega) (fun v' w'' ho' hg _ => hk _ _ ⟨hxj.grown hg (fun q hq => own_lt ho6 q hq), fun h => by simp at h, ho'⟩)
            | 2, hp =>
              obtain rfl : 11 = c' := by simpa using hp
              simp only [List.getElem?_toArray, List.getElem?_cons_zero, List.getElem?_cons_succ, Option.some.injEq] at ho
              subst ho
              obtain ⟨u0, u1, rfl⟩ := list_2 hl
              have e50 := hF.link 1 7 50 _ rfl rfl rfl rfl
              have e53 := hF.pure 10 53 (.slice none 0 0) rfl rfl rfl rfl rfl
              have hsW := hJ.1.size
              obtain ⟨hxj, -, ho6⟩ := hJ
              exact wp_appendS (.tmp 50) (.tmp 53) 25 rfl info_comI Tryz.underlying25 rfl (by decide) ho6 e50 e53 (Sl.ext (Cells.stays _) HS1.out hxj) (fun _ => rfl) com_ones' (by omega) (by unfold maxLen; omega) (by omega) (fun v' w'' ho' hg => hk _ _ ⟨hxj.grown hg (fun q hq => own_lt ho6 q hq), fun h => by simp at h, ho'⟩)
            | 3, hp =>
              obtain rfl : 12 = c' := by simpa using hp
              simp only [List.getElem?_toArray, List.getElem?_cons_zero, List.getElem?_cons_succ, Option.some.injEq] at ho
              subst ho
              obtain ⟨u0, u1, u2, rfl⟩ := list_3 hl
              have e54 := hF.link 2 11 54 _ rfl rfl rfl rfl
              exact wp_assignx _ _ rfl e54 (hk _ _ ⟨hJ.1, fun h => by simp at h, rfl, hJ.2.2⟩)
            | p + 4, hp => simp at hp
          intro us gs w9 hl hgs hJ
          obtain ⟨u0, u1, u2, u3, rfl⟩ := list_4 hl
          obtain ⟨g6, hg6⟩ := Option.isSome_iff_exists.1 (hgs 6 rfl)
          try simp only [Exit.inBlock, Exit.then]
          generalize hL : frameS _ _ _ _ _ _ _ = L
          obtain rfl : L = [(43, .slice none 0 0), (44, .slice none 0 0), (45, .int .i64 0), (46, .slice none 0 0), (47, u0), (48, .agg #[.int .i64 x.id, .int .i64 x.ev, .int .i64 x.fr, .int .i64 x.til, .string x.author, .string x.text, .bool x.done, .bool x.lost]), (49, ((gs 6).map fun g => Value.slice (some ⟨g, 0, none⟩) 1 1).getD undef), (50, u1), (51, .slice none 0 0), (52, .int .i64 0), (53, .slice none 0 0), (54, u2), (3, u3)] := hL.symm.trans (by kernel_rfl)
          rw [hg6]
          clear hL hl
          simp only [Act.put, Option.map_some, Option.getD_some, List.foldl_cons, List.foldl_nil, List.setIfInBounds_toArray, List.set_cons_zero, List.set_cons_succ]
          obtain ⟨hx9, -, rfl, ho9⟩ := hJ
          have hin : w9.ownsRow w2.heap.size 78 8 u3 (opS d.evs d.coms (k + 1)).length ((opS d.evs d.coms (k + 1)).flatMap Com.vals) := by
            have hfin : opS d.evs d.coms (k + 1) = S.take 0 ++ x :: S.drop 0 := HKeep.out.trans (Stb.insS_split (ltC_sw d.evs) S x 0 HSp.out (Nat.zero_le _) HGt.out (.inl rfl))
            rw [hfin]
            have hlen : (S.take 0 ++ x :: S.drop 0).length = 0 + 1 + 0 := by rw [List.length_append, List.length_cons, List.length_take, List.length_drop, HSl.out]; omega
            rw [hlen]
            have ho8 := own_le ho9 HXW.out.size
            simpa [List.flatMap_append, List.flatMap_cons, List.append_assoc, Com.vals] using ho8
          clear ho9
          go_wp2_with fail
          exact ⟨⟨k + 1, by omega, by go_num, HXW.out.trans hx9, hin⟩, by simp [intOf]; omega⟩
      · subst hv
        clear hb9
        go_wp2_with fail
        go_loopw [6] (fun s6 wr2 => OiRel d.evs S x m W1 s6 wr2) (fun s _ => (intOf s).toNat)
        case atStart => exact ⟨m, rfl, Nat.le_refl _, Ext.refl _, fun p y h1 h2 => by have := (List.getElem?_eq_some_iff.1 h2).1; have := HSl.out; omega⟩
        case round =>
          obtain ⟨j, rfl, hjk, hx2, hgt⟩ := hrel
          have HGt := Lib.hid hgt
          have HB2 := Lib.hid (HB1.out.ext hx2)
          have HD2 := Lib.hid (HD1.out.ext hx2)
          have HX2 := Lib.hid hx2
          clear hgt hx2
          by_cases hj0 : j = 0
          · have hjz : decide ((j : Int) > 0) = false := decide_eq_false (by omega)
            have hjz' : ¬ (0 : Int) < (j : Int) := by omega
            have hjz2 : decide (0 < j) = false := decide_eq_false (by omega)
            have hjz3 : ¬ 0 < j := by omega
            have HLt : Hid (j = 0 ∨ ∀ y, S[j - 1]? = some y → ltC d.evs x y = false) := .inl hj0
            have HJ0 := Lib.hid hj0
            clear hj0
            go_wp2_with fail
            refine wp_region_ew wr (Ext.refl _) (by kernel_rfl) (by kernel_rfl) ?_
            repeat (go_big_quiet_step ((fail)))
            refine wpQuiet_nil ?_
            rintro w9 ⟨⟨_, hx9⟩, rfl⟩
            try dsimp only
            have HXe : Hid (Ext w2 w9) := HXr1.out.trans (HX2.out.trans hx9)
            have HEve : Hid (w9.ownsRow w2.heap.size 78 8 (.slice (some ⟨g, 0, none⟩) m c6) m (S.flatMap Com.vals)) := own_ext (own_ext HEv1.out HX2.out) hx9
            have HBxe := Lib.hid (HB2.out.ext hx9)
            clear HX2 hx9 HB2
            go_wp2_with fail
            obtain ⟨W, hW⟩ : ∃ W, W = w9 := ⟨_, rfl⟩
            have HXW : Hid (Ext w2 W) := by show Ext _ _; rw [hW]; exact HXe.out
            have HEvW : Hid (W.ownsRow w2.heap.size 78 8 (.slice (some ⟨g, 0, none⟩) m c6) m (S.flatMap Com.vals)) := by show World.ownsRow _ _ _ _ _ _ _; rw [hW]; exact HEve.out
            have HBx : Hid (Blk W gx 78 #[.int .i64 x.id, .int .i64 x.ev, .int .i64 x.fr, .int .i64 x.til, .string x.author, .string x.text, .bool x.done, .bool x.lost]) := by show Blk _ _ _ _; rw [hW]; exact HBxe.out
            rw [← hW]
            clear hW HXe HEve HBxe
            have hown := HEvW.out
            obtain ⟨A9, c9, hv9, hc9, hm9, hsl9, -⟩ := own_sl (f := Com.vals) (size := 8) (fun _ => rfl) HSl.out hown
            cases hv9
            have HS0 : Hid (Sl W 8 (Cells Com.vals) (some ⟨g, 0, none⟩) j (S.take j)) := sl_take hsl9 hjk
            obtain ⟨A1, hA1, hsl1⟩ : ∃ A1, (if c6 = j then (some ⟨g, 0, none⟩ : Option Addr) else some ⟨g, j * 8, none⟩) = A1 ∧ Sl W 8 (Cells Com.vals) A1 (m - j) (S.drop j) := ⟨_, rfl, sl_drop hsl9 hjk hc9⟩
            have HS1 := Lib.hid hsl1
            have hjc : 0 ≤ (j : Int) ∧ (j : Int) ≤ (c6 : Int) := by omega
            have hjk2 : 0 ≤ (j : Int) ∧ (j : Int) ≤ (m : Int) := by omega
            have hjc2 : j ≤ c6 := by omega
            clear hown hsl9 hsl1
            go_upto_region 12 with fail
            refine wp_region_allocS [some 43, some 44, some 45, some 46, some 47, some 48, some 49, some 50, some 51, some 52, some 53, some 54, some 3] [[], [], [], [1, 2], [0, 3], [], [5], [4, 6, 4], [], [], [8, 9], [7, 10, 7], [11, 11, 0, 1, 2, 3, 4, 5, 6, 7, 8, 9, 10, 11]] [4, 7, 11, 12] [6] [.slice none 0 0, .slice (some ⟨g, 0, none⟩) m c6, .int .i64 (j : Int), .slice (some ⟨g, 0, none⟩) j c6, undef, .agg #[.int .i64 x.id, .int .i64 x.ev, .int .i64 x.fr, .int .i64 x.til, .string x.author, .string x.text, .bool x.done, .bool x.lost], undef, undef, .slice (some ⟨g, 0, none⟩) m c6, .int .i64 (j : Int), .slice A1 (m - j) (c6 - j), undef, undef] (fun _ g => Value.slice (some ⟨g, 0, none⟩) 1 1) (fun _ => .cells #[.int .i64 x.id, .int .i64 x.ev, .int .i64 x.fr, .int .i64 x.til, .string x.author, .string x.text, .bool x.done, .bool x.lost] 78) (OiJ W S j (m - j) x) (by kernel_rfl) (by kernel_rfl) (by kernel_rfl) (by kernel_rfl) (by kernel_rfl) (by kernel_rfl) (by kernel_rfl) (by decide) (by kernel_rfl) ?_ ?_ ?_ ?_ ?_ ?_
            · exact OiJ.start W
            · intro i o ho ha a w' us gs K' hF hk
              match i, ho with
              | 0, ho => simp at ha
              | 1, ho => simp at ha
              | 2, ho => simp at ha
              | 3, ho => simp at ha
              | 4, ho => simp at ha
              | 5, ho => simp at ha
              | 6, ho =>
                simp only [List.getElem?_toArray, List.getElem?_cons_zero, List.getElem?_cons_succ, Option.some.injEq] at ho
                subst ho
                exact (by
                  have e48 := hF.pure 5 48 (.agg #[.int .i64 x.id, .int .i64 x.ev, .int .i64 x.fr, .int .i64 x.til, .string x.author, .string x.text, .bool x.done, .bool x.lost]) rfl rfl rfl rfl rfl
                  simp only [Act.eval] at e48
                  have e48b := e48
                  rw [Array.getD_eq_getD_getElem?] at e48b
                  have HK := Lib.hid hk
                  clear hk hF
                  go_simp
                  exact HK.out)
              | 7, ho => simp at ha
              | 8, ho => simp at ha
              | 9, ho => simp at ha
              | 10, ho => simp at ha
              | 11, ho => simp at ha
              | 12, ho => simp at ha
              | i + 13, ho => simp at ho
            · intro i ha us gs w' hJ hn hlim
              match i, ha with
              | 0, ha => simp at ha
              | 1, ha => simp at ha
              | 2, ha => simp at ha
              | 3, ha => simp at ha
              | 4, ha => simp at ha
              | 5, ha => simp at ha
              | 6, ha => exact hJ.alo (hlim 1 7 rfl rfl)
              | 7, ha => simp at ha
              | 8, ha => simp at ha
              | 9, ha => simp at ha
              | 10, ha => simp at ha
              | 11, ha => simp at ha
              | 12, ha => simp at ha
              | i + 13, ha => simp at ha
            · intro i o ho hc ha a w' us gs K' hJ hF hlim hk
              match i, ho with
              | 0, ho =>
                simp only [List.getElem?_toArray, List.getElem?_cons_zero, List.getElem?_cons_succ, Option.some.injEq] at ho
                subst ho
                have e7 := hF.old 7 (.slice none 0 0) rfl rfl
                simp only [Act.eval] at e7
                clear hF hlim hJ
                go_simp
                exact hk
              | 1, ho =>
                simp only [List.getElem?_toArray, List.getElem?_cons_zero, List.getElem?_cons_succ, Option.some.injEq] at ho
                subst ho
                have e3 := hF.olds 3 12 3 (.slice (some ⟨g, 0, none⟩) m c6) rfl rfl (hlim 3 12 rfl rfl) rfl
                simp only [Act.eval] at e3
                clear hF hlim hJ
                go_simp
                exact hk
              | 2, ho =>
                simp only [List.getElem?_toArray, List.getElem?_cons_zero, List.getElem?_cons_succ, Option.some.injEq] at ho
                subst ho
                have e6 := hF.old 6 (.int .i64 (j : Int)) rfl rfl
                simp only [Act.eval] at e6
                clear hF hlim hJ
                go_simp
                exact hk
              | 3, ho =>
                simp only [List.getElem?_toArray, List.getElem?_cons_zero, List.getElem?_cons_succ, Option.some.injEq] at ho
                subst ho
                have e44 := hF.pure 1 44 (.slice (some ⟨g, 0, none⟩) m c6) rfl rfl rfl rfl rfl
                have e45 := hF.pure 2 45 (.int .i64 (j : Int)) rfl rfl rfl rfl rfl
                simp only [Act.eval] at e44 e45
                clear hF hlim hJ
                go_simp
                exact hk
              | 4, ho => simp at hc
              | 5, ho =>
                simp only [List.getElem?_toArray, List.getElem?_cons_zero, List.getElem?_cons_succ, Option.some.injEq] at ho
                subst ho
                have e5 := hF.old 5 (.pointer (some ⟨gx, 0, none⟩)) rfl rfl
                exact wp_loadBk 78 (.tmp 5) rfl _ 78 _ _ e5 (HBx.out.ext hJ.1) Tryz.underlying78 rfl (by exact size_comI) hk
              | 6, ho => simp at ha
              | 7, ho => simp at hc
              | 8, ho =>
                simp only [List.getElem?_toArray, List.getElem?_cons_zero, List.getElem?_cons_succ, Option.some.injEq] at ho
                subst ho
                have e3 := hF.olds 3 12 3 (.slice (some ⟨g, 0, none⟩) m c6) rfl rfl (hlim 3 12 rfl rfl) rfl
                simp only [Act.eval] at e3
                clear hF hlim hJ
                go_simp
                exact hk
              | 9, ho =>
                simp only [List.getElem?_toArray, List.getElem?_cons_zero, List.getElem?_cons_succ, Option.some.injEq] at ho
                subst ho
                have e6 := hF.old 6 (.int .i64 (j : Int)) rfl rfl
                simp only [Act.eval] at e6
                clear hF hlim hJ
                go_simp
                exact hk
              | 10, ho =>
                simp only [List.getElem?_toArray, List.getElem?_cons_zero, List.getElem?_cons_succ, Option.some.injEq] at ho
                subst ho
                have e51 := hF.pure 8 51 (.slice (some ⟨g, 0, none⟩) m c6) rfl rfl rfl rfl rfl
                have e52 := hF.pure 9 52 (.int .i64 (j : Int)) rfl rfl rfl rfl rfl
                simp only [Act.eval] at e51 e52
                clear hF hlim hJ
                go_simp
                exact hk
              | 11, ho => simp at hc
              | 12, ho => simp at hc
              | i + 13, ho => simp at ho
            · intro p c' o hp ho a w' us gs K' hl hJ hF hk
              match p, hp with
              | 0, hp =>
                obtain rfl : 4 = c' := by simpa using hp
                simp only [List.getElem?_toArray, List.getElem?_cons_zero, List.getElem?_cons_succ, Option.some.injEq] at ho
                subst ho
                obtain rfl : us = [] := List.eq_nil_of_length_eq_zero hl
                have e43 := hF.pure 0 43 (.slice none 0 0) rfl rfl rfl rfl rfl
                have e46 := hF.pure 3 46 (.slice (some ⟨g, 0, none⟩) j c6) rfl rfl rfl rfl rfl
                have hsW := hJ.1.size
                exact wp_appendS (.tmp 43) (.tmp 46) 25 rfl info_comI Tryz.underlying25 rfl (by decide) (base := W.heap.size) (v := .slice none 0 0) (n := 0) (xs := []) ⟨rfl, .inl ⟨rfl, rfl⟩⟩ e43 e46 (Sl.ext (Cells.stays _) HS0.out hJ.1) (fun _ => rfl) com_ones' (by omega) (by unfold maxLen; omega) (by omega) (fun v' w'' ho hg => hk _ _ ⟨hJ.1.grown hg (fun q hq => by cases hq), fun _ g hg6 => (hJ.2.1 (by simp) g hg6).ext ((Ext.refl w').grown hg (fun q hq => by cases hq)), by simpa using ho⟩)
              | 1, hp =>
                obtain rfl : 7 = c' := by simpa using hp
                simp only [List.getElem?_toArray, List.getElem?_cons_zero, List.getElem?_cons_succ, Option.some.injEq] at ho
                subst ho
                obtain ⟨u0, rfl⟩ := list_1 hl
                have e47 := hF.link 0 4 47 _ rfl rfl rfl rfl
                obtain ⟨g49, hg49, e49⟩ := hF.ptr 6 49 rfl rfl rfl rfl
                have e49 : a.eval (.tmp 49) = .slice (some ⟨g49, 0, none⟩) 1 1 := e49
                have hsW := hJ.1.size
                obtain ⟨hxj, hB6, ho6⟩ := hJ
                exact wp_append1a (.tmp 47) (.tmp 49) 25 rfl info_comI Tryz.underlying25 rfl (by decide) ho6 e47 g49 _ e49 (hB6 (by simp) g49 hg49) (by exact rfl) (by simp [Value.oneCell']) (by omega) (by unfold maxLen; omega) (by omega) (fun v' w'' ho' hg _ => hk _ _ ⟨hxj.grown hg (fun q hq => own_lt ho6 q hq), fun h => by simp at h, ho'⟩)
              | 2, hp =>
                obtain rfl : 11 = c' := by simpa using hp
                simp only [List.getElem?_toArray, List.getElem?_cons_zero, List.getElem?_cons_succ, Option.some.injEq] at ho
                subst ho
                obtain ⟨u0, u1, rfl⟩ := list_2 hl
                have e50 := hF.link 1 7 50 _ rfl rfl rfl rfl
                have e53 := hF.pure 10 53 (.slice A1 (m - j) (c6 - j)) rfl rfl rfl rfl rfl
                have hsW := hJ.1.size
                obtain ⟨hxj, -, ho6⟩ := hJ
                exact wp_appendS (.tmp 50) (.tmp 53) 25 rfl info_comI Tryz.underlying25 rfl (by decide) ho6 e50 e53 (Sl.ext (Cells.stays _) HS1.out hxj) (fun _ => rfl) com_ones' (by omega) (by unfold maxLen; omega) (by omega) (fun v' w'' ho' hg => hk _ _ ⟨hxj.grown hg (fun q hq => own_lt ho6 q hq), fun h => by simp at h, ho'⟩)
              | 3, hp =>
                obtain rfl : 12 = c' := by simpa using hp
                simp only [List.getElem?_toArray, List.getElem?_cons_zero, List.getElem?_cons_succ, Option.some.injEq] at ho
                subst ho
                obtain ⟨u0, u1, u2, rfl⟩ := list_3 hl
                have e54 := hF.link 2 11 54 _ rfl rfl rfl rfl
                exact wp_assignx _ _ rfl e54 (hk _ _ ⟨hJ.1, fun h => by simp at h, rfl, hJ.2.2⟩)
              | p + 4, hp => simp at hp
            intro us gs w9 hl hgs hJ
            obtain ⟨u0, u1, u2, u3, rfl⟩ := list_4 hl
            obtain ⟨g6, hg6⟩ := Option.isSome_iff_exists.1 (hgs 6 rfl)
            try simp only [Exit.inBlock, Exit.then]
            generalize hL : frameS _ _ _ _ _ _ _ = L
            obtain rfl : L = [(43, .slice none 0 0), (44, .slice (some ⟨g, 0, none⟩) m c6), (45, .int .i64 (j : Int)), (46, .slice (some ⟨g, 0, none⟩) j c6), (47, u0), (48, .agg #[.int .i64 x.id, .int .i64 x.ev, .int .i64 x.fr, .int .i64 x.til, .string x.author, .string x.text, .bool x.done, .bool x.lost]), (49, ((gs 6).map fun g => Value.slice (some ⟨g, 0, none⟩) 1 1).getD undef), (50, u1), (51, .slice (some ⟨g, 0, none⟩) m c6), (52, .int .i64 (j : Int)), (53, .slice A1 (m - j) (c6 - j)), (54, u2), (3, u3)] := hL.symm.trans (by kernel_rfl)
            rw [hg6]
            clear hL hl
            simp only [Act.put, Option.map_some, Option.getD_some, List.foldl_cons, List.foldl_nil, List.setIfInBounds_toArray, List.set_cons_zero, List.set_cons_succ]
            obtain ⟨hx9, -, rfl, ho9⟩ := hJ
            have hin : w9.ownsRow w2.heap.size 78 8 u3 (opS d.evs d.coms (k + 1)).length ((opS d.evs d.coms (k + 1)).flatMap Com.vals) := by
              have hfin : opS d.evs d.coms (k + 1) = S.take j ++ x :: S.drop j := HKeep.out.trans (Stb.insS_split (ltC_sw d.evs) S x j HSp.out (by rw [HSl.out]; exact hjk) HGt.out HLt.out)
              rw [hfin]
              have hlen : (S.take j ++ x :: S.drop j).length = j + 1 + (m - j) := by rw [List.length_append, List.length_cons, List.length_take, List.length_drop, HSl.out]; omega
              rw [hlen]
              have ho8 := own_le ho9 HXW.out.size
              simpa [List.flatMap_append, List.flatMap_cons, List.append_assoc, Com.vals] using ho8
            clear ho9
            go_wp2_with fail
            exact ⟨⟨k + 1, by omega, by go_num, HXW.out.trans hx9, hin⟩, by simp [intOf]; omega⟩
          · have hjz : (0 : Int) < (j : Int) := by omega
            have hjz2 : 0 < j := by omega
            obtain ⟨jm, hjm⟩ : ∃ jm, jm = j - 1 := ⟨_, rfl⟩
            have hj1 : (j : Int) - 1 = (jm : Int) := by omega
            have hjl : jm < m := by omega
            have hatS : ComsAt wr (some ⟨g, 0, none⟩) m S := by
              obtain ⟨A9, c9, hv9, -, -, hsl9, -⟩ := own_sl (f := Com.vals) (size := 8) (fun _ => rfl) HSl.out (own_ext HEv1.out HX2.out)
              cases hv9
              exact hsl9
            obtain ⟨b6, off6, y, hA6, hy, f0, f1, f2, f3, f4, f5, f6, f7⟩ := hatS.at8 hjl
            cases hA6
            have HY : Hid (S[j - 1]? = some y) := by show _ = _; rw [← hjm]; exact hy
            have HLs := Lib.hid (fun (z : EW wr) => R14Ahead_any d ⟨hra, nr, hrc, hea, hen, hec, (some ⟨b, off, none⟩), nc, hcc⟩ x y z.w (HAt.out.evs.ext ((HX0.out.trans HXr1.out).trans (HX2.out.trans z.ext))) hnE)
            unfold Doc.cells at HLs
            dsimp only at HLs
            have HJm := Lib.hid hjm
            simp only [Nat.zero_add] at f0 f1 f2 f3 f4 f5 f6 f7
            have r0 := fun (z : EW wr) (o : Nat) => (HB2.out.ext z.ext).cell o
            have r9 := fun (z : EW wr) (o : Nat) => (HD2.out.ext z.ext).cell o
            have r1 := fun (z : EW wr) => z.ext.cell f0
            have r2 := fun (z : EW wr) => z.ext.cell f1
            have r3 := fun (z : EW wr) => z.ext.cell f2
            have r4 := fun (z : EW wr) => z.ext.cell f3
            have r5 := fun (z : EW wr) => z.ext.cell f4
            have r6 := fun (z : EW wr) => z.ext.cell f5
            have r7 := fun (z : EW wr) => z.ext.cell f6
            have r8 := fun (z : EW wr) => z.ext.cell f7
            clear hjm hy hatS f0 f1 f2 f3 f4 f5 f6 f7
            cases hls : ltC d.evs x y
            · have HLt : Hid (j = 0 ∨ ∀ z, S[j - 1]? = some z → ltC d.evs x z = false) := .inr (fun z hz => by rw [HY.out] at hz; cases hz; exact hls)
              rw [hls] at HLs
              clear hls
              go_wp2_with fail
              refine wp_region_ew wr (Ext.refl _) (by kernel_rfl) (by kernel_rfl) ?_
              repeat (go_big_quiet_step ((go_at_call 120; exact EW.calls _ (HLs.out _))))
              refine wpQuiet_nil ?_
              rintro w9 ⟨⟨_, hx9⟩, rfl⟩
              try dsimp only
              clear r0 r1 r2 r3 r4 r5 r6 r7 r8 r9 HLs
              have HXe : Hid (Ext w2 w9) := HXr1.out.trans (HX2.out.trans hx9)
              have HEve : Hid (w9.ownsRow w2.heap.size 78 8 (.slice (some ⟨g, 0, none⟩) m c6) m (S.flatMap Com.vals)) := own_ext (own_ext HEv1.out HX2.out) hx9
              have HBxe := Lib.hid (HB2.out.ext hx9)
              clear HX2 hx9 HB2
              go_wp2_with fail
              obtain ⟨W, hW⟩ : ∃ W, W = w9 := ⟨_, rfl⟩
              have HXW : Hid (Ext w2 W) := by show Ext _ _; rw [hW]; exact HXe.out
              have HEvW : Hid (W.ownsRow w2.heap.size 78 8 (.slice (some ⟨g, 0, none⟩) m c6) m (S.flatMap Com.vals)) := by show World.ownsRow _ _ _ _ _ _ _; rw [hW]; exact HEve.out
              have HBx : Hid (Blk W gx 78 #[.int .i64 x.id, .int .i64 x.ev, .int .i64 x.fr, .int .i64 x.til, .string x.author, .string x.text, .bool x.done, .bool x.lost]) := by show Blk _ _ _ _; rw [hW]; exact HBxe.out
              rw [← hW]
              clear hW HXe HEve HBxe
              have hown := HEvW.out
              obtain ⟨A9, c9, hv9, hc9, hm9, hsl9, -⟩ := own_sl (f := Com.vals) (size := 8) (fun _ => rfl) HSl.out hown
              cases hv9
              have HS0 : Hid (Sl W 8 (Cells Com.vals) (some ⟨g, 0, none⟩) j (S.take j)) := sl_take hsl9 hjk
              obtain ⟨A1, hA1, hsl1⟩ : ∃ A1, (if c6 = j then (some ⟨g, 0, none⟩ : Option Addr) else some ⟨g, j * 8, none⟩) = A1 ∧ Sl W 8 (Cells Com.vals) A1 (m - j) (S.drop j) := ⟨_, rfl, sl_drop hsl9 hjk hc9⟩
              have HS1 := Lib.hid hsl1
              have hjc : 0 ≤ (j : Int) ∧ (j : Int) ≤ (c6 : Int) := by omega
              have hjk2 : 0 ≤ (j : Int) ∧ (j : Int) ≤ (m : Int) := by omega
              have hjc2 : j ≤ c6 := by omega
              clear hown hsl9 hsl1
              go_upto_region 12 with fail
              refine wp_region_allocS [some 43, some 44, some 45, some 46, some 47, some 48, some 49, some 50, some 51, some 52, some 53, some 54, some 3] [[], [], [], [1, 2], [0, 3], [], [5], [4, 6, 4], [], [], [8, 9], [7, 10, 7], [11, 11, 0, 1, 2, 3, 4, 5, 6, 7, 8, 9, 10, 11]] [4, 7, 11, 12] [6] [.slice none 0 0, .slice (some ⟨g, 0, none⟩) m c6, .int .i64 (j : Int), .slice (some ⟨g, 0, none⟩) j c6, undef, .agg #[.int .i64 x.id, .int .i64 x.ev, .int .i64 x.fr, .int .i64 x.til, .string x.author, .string x.text, .bool x.done, .bool x.lost], undef, undef, .slice (some ⟨g, 0, none⟩) m c6, .int .i64 (j : Int), .slice A1 (m - j) (c6 - j), undef, undef] (fun _ g => Value.slice (some ⟨g, 0, none⟩) 1 1) (fun _ => .cells #[.int .i64 x.id, .int .i64 x.ev, .int .i64 x.fr, .int .i64 x.til, .string x.author, .string x.text, .bool x.done, .bool x.lost] 78) (OiJ W S j (m - j) x) (by kernel_rfl) (by kernel_rfl) (by kernel_rfl) (by kernel_rfl) (by kernel_rfl) (by kernel_rfl) (by kernel_rfl) (by decide) (by kernel_rfl) ?_ ?_ ?_ ?_ ?_ ?_
              · exact OiJ.start W
              · intro i o ho ha a w' us gs K' hF hk
                match i, ho with
                | 0, ho => simp at ha
                | 1, ho => simp at ha
                | 2, ho => simp at ha
                | 3, ho => simp at ha
                | 4, ho => simp at ha
                | 5, ho => simp at ha
                | 6, ho =>
                  simp only [List.getElem?_toArray, List.getElem?_cons_zero, List.getElem?_cons_succ, Option.some.injEq] at ho
                  subst ho
                  exact (by
                    have e48 := hF.pure 5 48 (.agg #[.int .i64 x.id, .int .i64 x.ev, .int .i64 x.fr, .int .i64 x.til, .string x.author, .string x.text, .bool x.done, .bool x.lost]) rfl rfl rfl rfl rfl
                    simp only [Act.eval] at e48
                    have e48b := e48
                    rw [Array.getD_eq_getD_getElem?] at e48b
                    have HK := Lib.hid hk
                    clear hk hF
                    go_simp
                    exact HK.out)
                | 7, ho => simp at ha
                | 8, ho => simp at ha
                | 9, ho => simp at ha
                | 10, ho => simp at ha
                | 11, ho => simp at ha
                | 12, ho => simp at ha
                | i + 13, ho => simp at ho
              · intro i ha us gs w' hJ hn hlim
                match i, ha with
                | 0, ha => simp at ha
                | 1, ha => simp at ha
                | 2, ha => simp at ha
                | 3, ha => simp at ha
                | 4, ha => simp at ha
                | 5, ha => simp at ha
                | 6, ha => exact hJ.alo (hlim 1 7 rfl rfl)
                | 7, ha => simp at ha
                | 8, ha => simp at ha
                | 9, ha => simp at ha
                | 10, ha => simp at ha
                | 11, ha => simp at ha
                | 12, ha => simp at ha
                | i + 13, ha => simp at ha
              · intro i o ho hc ha a w' us gs K' hJ hF hlim hk
                match i, ho with
                | 0, ho =>
                  simp only [List.getElem?_toArray, List.getElem?_cons_zero, List.getElem?_cons_succ, Option.some.injEq] at ho
                  subst ho
                  have e7 := hF.old 7 (.slice none 0 0) rfl rfl
                  simp only [Act.eval] at e7
                  clear hF hlim hJ
                  go_simp
                  exact hk
                | 1, ho =>
                  simp only [List.getElem?_toArray, List.getElem?_cons_zero, List.getElem?_cons_succ, Option.some.injEq] at ho
                  subst ho
                  have e3 := hF.olds 3 12 3 (.slice (some ⟨g, 0, none⟩) m c6) rfl rfl (hlim 3 12 rfl rfl) rfl
                  simp only [Act.eval] at e3
                  clear hF hlim hJ
                  go_simp
                  exact hk
                | 2, ho =>
                  simp only [List.getElem?_toArray, List.getElem?_cons_zero, List.getElem?_cons_succ, Option.some.injEq] at ho
                  subst ho
                  have e6 := hF.old 6 (.int .i64 (j : Int)) rfl rfl
                  simp only [Act.eval] at e6
                  clear hF hlim hJ
                  go_simp
                  exact hk
                | 3, ho =>
                  simp only [List.getElem?_toArray, List.getElem?_cons_zero, List.getElem?_cons_succ, Option.some.injEq] at ho
                  subst ho
                  have e44 := hF.pure 1 44 (.slice (some ⟨g, 0, none⟩) m c6) rfl rfl rfl rfl rfl
                  have e45 := hF.pure 2 45 (.int .i64 (j : Int)) rfl rfl rfl rfl rfl
                  simp only [Act.eval] at e44 e45
                  clear hF hlim hJ
                  go_simp
                  exact hk
                | 4, ho => simp at hc
                | 5, ho =>
                  simp only [List.getElem?_toArray, List.getElem?_cons_zero, List.getElem?_cons_succ, Option.some.injEq] at ho
                  subst ho
                  have e5 := hF.old 5 (.pointer (some ⟨gx, 0, none⟩)) rfl rfl
                  exact wp_loadBk 78 (.tmp 5) rfl _ 78 _ _ e5 (HBx.out.ext hJ.1) Tryz.underlying78 rfl (by exact size_comI) hk
                | 6, ho => simp at ha
                | 7, ho => simp at hc
                | 8, ho =>
                  simp only [List.getElem?_toArray, List.getElem?_cons_zero, List.getElem?_cons_succ, Option.some.injEq] at ho
                  subst ho
                  have e3 := hF.olds 3 12 3 (.slice (some ⟨g, 0, none⟩) m c6) rfl rfl (hlim 3 12 rfl rfl) rfl
                  simp only [Act.eval] at e3
                  clear hF hlim hJ
                  go_simp
                  exact hk
                | 9, ho =>
                  simp only [List.getElem?_toArray, List.getElem?_cons_zero, List.getElem?_cons_succ, Option.some.injEq] at ho
                  subst ho
                  have e6 := hF.old 6 (.int .i64 (j : Int)) rfl rfl
                  simp only [Act.eval] at e6
                  clear hF hlim hJ
                  go_simp
                  exact hk
                | 10, ho =>
                  simp only [List.getElem?_toArray, List.getElem?_cons_zero, List.getElem?_cons_succ, Option.some.injEq] at ho
                  subst ho
                  have e51 := hF.pure 8 51 (.slice (some ⟨g, 0, none⟩) m c6) rfl rfl rfl rfl rfl
                  have e52 := hF.pure 9 52 (.int .i64 (j : Int)) rfl rfl rfl rfl rfl
                  simp only [Act.eval] at e51 e52
                  clear hF hlim hJ
                  go_simp
                  exact hk
                | 11, ho => simp at hc
                | 12, ho => simp at hc
                | i + 13, ho => simp at ho
              · intro p c' o hp ho a w' us gs K' hl hJ hF hk
                match p, hp with
                | 0, hp =>
                  obtain rfl : 4 = c' := by simpa using hp
                  simp only [List.getElem?_toArray, List.getElem?_cons_zero, List.getElem?_cons_succ, Option.some.injEq] at ho
                  subst ho
                  obtain rfl : us = [] := List.eq_nil_of_length_eq_zero hl
                  have e43 := hF.pure 0 43 (.slice none 0 0) rfl rfl rfl rfl rfl
                  have e46 := hF.pure 3 46 (.slice (some ⟨g, 0, none⟩) j c6) rfl rfl rfl rfl rfl
                  have hsW := hJ.1.size
                  exact wp_appendS (.tmp 43) (.tmp 46) 25 rfl info_comI Tryz.underlying25 rfl (by decide) (base := W.heap.size) (v := .slice none 0 0) (n := 0) (xs := []) ⟨rfl, .inl ⟨rfl, rfl⟩⟩ e43 e46 (Sl.ext (Cells.stays _) HS0.out hJ.1) (fun _ => rfl) com_ones' (by omega) (by unfold maxLen; omega) (by omega) (fun v' w'' ho hg => hk _ _ ⟨hJ.1.grown hg (fun q hq => by cases hq), fun _ g hg6 => (hJ.2.1 (by simp) g hg6).ext ((Ext.refl w').grown hg (fun q hq => by cases hq)), by simpa using ho⟩)
                | 1, hp =>
                  obtain rfl : 7 = c' := by simpa using hp
                  simp only [List.getElem?_toArray, List.getElem?_cons_zero, List.getElem?_cons_succ, Option.some.injEq] at ho
                  subst ho
                  obtain ⟨u0, rfl⟩ := list_1 hl
                  have e47 := hF.link 0 4 47 _ rfl rfl rfl rfl
                  obtain ⟨g49, hg49, e49⟩ := hF.ptr 6 49 rfl rfl rfl rfl
                  have e49 : a.eval (.tmp 49) = .slice (some ⟨g49, 0, none⟩) 1 1 := e49
                  have hsW := hJ.1.size
                  obtain ⟨hxj, hB6, ho6⟩ := hJ
                  exact wp_append1a (.tmp 47) (.tmp 49) 25 rfl info_comI Tryz.underlying25 rfl (by decide) ho6 e47 g49 _ e49 (hB6 (by simp) g49 hg49) (by exact rfl) (by simp [Value.oneCell']) (by omega) (by unfold maxLen; omega) (by omega) (fun v' w'' ho' hg _ => hk _ _ ⟨hxj.grown hg (fun q hq => own_lt ho6 q hq), fun h => by simp at h, ho'⟩)
                | 2, hp =>
                  obtain rfl : 11 = c' := by simpa using hp
                  simp only [List.getElem?_toArray, List.getElem?_cons_zero, List.getElem?_cons_succ, Option.some.injEq] at ho
                  subst ho
                  obtain ⟨u0, u1, rfl⟩ := list_2 hl
                  have e50 := hF.link 1 7 50 _ rfl rfl rfl rfl
                  have e53 := hF.pure 10 53 (.slice A1 (m - j) (c6 - j)) rfl rfl rfl rfl rfl
                  have hsW := hJ.1.size
                  obtain ⟨hxj, -, ho6⟩ := hJ
                  exact wp_appendS (.tmp 50) (.tmp 53) 25 rfl info_comI Tryz.underlying25 rfl (by decide) ho6 e50 e53 (Sl.ext (Cells.stays _) HS1.out hxj) (fun _ => rfl) com_ones' (by omega) (by unfold maxLen; omega) (by omega) (fun v' w'' ho' hg => hk _ _ ⟨hxj.grown hg (fun q hq => own_lt ho6 q hq), fun h => by simp at h, ho'⟩)
                | 3, hp =>
                  obtain rfl : 12 = c' := by simpa using hp
                  simp only [List.getElem?_toArray, List.getElem?_cons_zero, List.getElem?_cons_succ, Option.some.injEq] at ho
                  subst ho
                  obtain ⟨u0, u1, u2, rfl⟩ := list_3 hl
                  have e54 := hF.link 2 11 54 _ rfl rfl rfl rfl
                  exact wp_assignx _ _ rfl e54 (hk _ _ ⟨hJ.1, fun h => by simp at h, rfl, hJ.2.2⟩)
                | p + 4, hp => simp at hp
              intro us gs w9 hl hgs hJ
              obtain ⟨u0, u1, u2, u3, rfl⟩ := list_4 hl
              obtain ⟨g6, hg6⟩ := Option.isSome_iff_exists.1 (hgs 6 rfl)
              try simp only [Exit.inBlock, Exit.then]
              generalize hL : frameS _ _ _ _ _ _ _ = L
              obtain rfl : L = [(43, .slice none 0 0), (44, .slice (some ⟨g, 0, none⟩) m c6), (45, .int .i64 (j : Int)), (46, .slice (some ⟨g, 0, none⟩) j c6), (47, u0), (48, .agg #[.int .i64 x.id, .int .i64 x.ev, .int .i64 x.fr, .int .i64 x.til, .string x.author, .string x.text, .bool x.done, .bool x.lost]), (49, ((gs 6).map fun g => Value.slice (some ⟨g, 0, none⟩) 1 1).getD undef), (50, u1), (51, .slice (some ⟨g, 0, none⟩) m c6), (52, .int .i64 (j : Int)), (53, .slice A1 (m - j) (c6 - j)), (54, u2), (3, u3)] := hL.symm.trans (by kernel_rfl)
              rw [hg6]
              clear hL hl
              simp only [Act.put, Option.map_some, Option.getD_some, List.foldl_cons, List.foldl_nil, List.setIfInBounds_toArray, List.set_cons_zero, List.set_cons_succ]
              obtain ⟨hx9, -, rfl, ho9⟩ := hJ
              have hin : w9.ownsRow w2.heap.size 78 8 u3 (opS d.evs d.coms (k + 1)).length ((opS d.evs d.coms (k + 1)).flatMap Com.vals) := by
                have hfin : opS d.evs d.coms (k + 1) = S.take j ++ x :: S.drop j := HKeep.out.trans (Stb.insS_split (ltC_sw d.evs) S x j HSp.out (by rw [HSl.out]; exact hjk) HGt.out HLt.out)
                rw [hfin]
                have hlen : (S.take j ++ x :: S.drop j).length = j + 1 + (m - j) := by rw [List.length_append, List.length_cons, List.length_take, List.length_drop, HSl.out]; omega
                rw [hlen]
                have ho8 := own_le ho9 HXW.out.size
                simpa [List.flatMap_append, List.flatMap_cons, List.append_assoc, Com.vals] using ho8
              clear ho9
              go_wp2_with fail
              exact ⟨⟨k + 1, by omega, by go_num, HXW.out.trans hx9, hin⟩, by simp [intOf]; omega⟩
            · have HLt := Lib.hid hls
              rw [hls] at HLs
              clear hls
              go_wp2_with fail
              refine wp_region_ew wr (Ext.refl _) (by kernel_rfl) (by kernel_rfl) ?_
              repeat (go_big_quiet_step ((go_at_call 120; exact EW.calls _ (HLs.out _))))
              refine wpQuiet_nil ?_
              rintro w9 ⟨⟨_, hx9⟩, rfl⟩
              try dsimp only
              clear r0 r1 r2 r3 r4 r5 r6 r7 r8 r9 HLs
              go_wp2_with fail
              refine ⟨⟨jm, rfl, by omega, HX2.out.trans hx9, fun p z h1 h2 => ?_⟩, by simp [intOf]; omega⟩
              by_cases hp : p = jm
              · subst hp
                rw [HJm.out, HY.out] at h2
                cases h2
                exact HLt.out
              · exact HGt.out p z (by have := HJm.out; omega) h2
    · obtain rfl : k = nc := by omega
      have htk : opS d.evs d.coms k = srtC d.evs (openL d.coms) := by unfold opS; rw [List.take_of_length_le (by omega)]
      have hO := HO.out
      rw [htk] at hO
      have hml : (srtC d.evs (openL d.coms)).length ≤ k := by rw [← htk, ← hl0]; exact opS_len _ _ _
      generalize srtC d.evs (openL d.coms) = S at *
      obtain ⟨A4, c4, rfl, hc4, -, hsl4, -⟩ := own_sl (f := Com.vals) (size := 8) (fun _ => rfl) rfl hO
      have HSl : Hid (ComsAt wr A4 S.length S) := hsl4
      have HX5 := Lib.hid (HX0.out.trans hx)
      clear HO hO hsl4 htk hx HD0
      obtain ⟨m, hm⟩ : ∃ m, S.length = m := ⟨_, rfl⟩
      rw [hm] at HSl hml hc4 ⊢
      have hml2 : (S.map (·.id)).length = m := by rw [List.length_map]; exact hm
      obtain ⟨w5, rfl⟩ : ∃ w5 : World, w5 = wr := ⟨_, rfl⟩
      clear hm
      go_wp2_with fail
      go_loopw [8, 58] (fun v i wr => OpLoop (S.map (·.id)) w5 v i wr) (fun _ i _ => m - (intOf i).toNat)
      case atStart => exact ⟨0, Nat.zero_le _, rfl, Ext.refl _, ⟨rfl, .inl ⟨rfl, rfl⟩⟩⟩
      case round =>
        obtain ⟨k2, hk2, rfl, hx, hown⟩ := hrel
        have HO := Lib.hid hown
        clear hown
        by_cases hlt2 : k2 < m
        · obtain ⟨b, off, x, hA4, hxx, c0, c1, c2, c3', c4', c5', c6, c7⟩ := (HSl.out.ext hx).at8 hlt2
          subst hA4
          have hids : (S.map (·.id))[k2]? = some x.id := by rw [List.getElem?_map, hxx]; rfl
          have HT := Lib.hid (take_snoc' _ k2 _ hids)
          have hk0 : (0 : Int) ≤ (k2 : Int) := by omega
          have hk1 : (k2 : Int) < (m : Int) := by omega
          clear hxx hids
          go_upto_region 18 with fail
          clear c0 c1 c2 c3' c4' c5' c6 c7
          have HX1 := Lib.hid (hx.alloc (.cells #[.int .i64 x.id, .int .i64 x.ev, .int .i64 x.fr, .int .i64 x.til, .string x.author, .string x.text, .bool x.done, .bool x.lost] 78))
          have HO1 := Lib.hid (HO.out.alloc (.cells #[.int .i64 x.id, .int .i64 x.ev, .int .i64 x.fr, .int .i64 x.til, .string x.author, .string x.text, .bool x.done, .bool x.lost] 78))
          have HBx := Lib.hid (Blk.new wr 78 #[.int .i64 x.id, .int .i64 x.ev, .int .i64 x.fr, .int .i64 x.til, .string x.author, .string x.text, .bool x.done, .bool x.lost])
          have hszr := hx.size
          obtain ⟨Wx, hWx⟩ : ∃ Wx, Wx = wr.alloc (.cells #[.int .i64 x.id, .int .i64 x.ev, .int .i64 x.fr, .int .i64 x.til, .string x.author, .string x.text, .bool x.done, .bool x.lost] 78) := ⟨_, rfl⟩
          rw [← hWx] at HX1 HO1 HBx ⊢
          clear hWx
          have hcx := fun o => HBx.out.cell o
          have hszW := HX1.out.size
          go_wp2_with (at_builtin; refine wpList_append1 rfl (.tmp 62) (.tmp 65) 72 rfl info_i64 Tryz.underlying72 rfl (by decide) (HO1.out.alloc _) (by exact rfl) Wx.heap.size _ (by exact rfl) (by exact Blk.new' rfl) (by exact rfl) (by simp [Value.oneCell']) (by omega) (by simp [maxLen]; omega) (by simp; omega) ?_; intro v' w6 hown3 hgr)
          refine ⟨⟨k2 + 1, by omega, by go_num, (HX1.out.alloc _).grown hgr (fun q hq => own_lt HO1.out q hq), ?_⟩, by simp [intOf]; omega⟩
          rw [HT.out, List.flatMap_append]
          exact hown3
        · obtain rfl : k2 = m := by omega
          have HT : Hid ((S.map (·.id)).take k2 = S.map (·.id)) := List.take_of_length_le (by omega)
          have hO2 := HO.out
          rw [HT.out] at hO2
          obtain ⟨A6, c6, rfl, hc6, -, hsl, -⟩ := own_sl (f := fun x : Int => [Value.int .i64 x]) (size := 1) (fun _ => rfl) hml2 hO2
          have HS := Lib.hid hsl
          have HL := Lib.hid hml2
          have HX7 := Lib.hid (HX5.out.trans hx)
          clear HO hO2 hsl hx hml2
          go_wp2_with fail
          go_ret
          refine ⟨A6, c6, ?_, ?_, ?_, HX7.out⟩ <;> rw [HV.out, HL.out]
          · rfl
          · exact HS.out
          · exact hc6
end Go.Proofs.YtagfedbdakmlgaaGreatDoor
