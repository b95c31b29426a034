/- The walks of reel.At and of the reference's At. -/
import Derived.Test.YtffianmhojiomaaDoorCheck
import Derived.Test.YtffianmhojiomaaDoorCheckR
import Derived.Test.YtffianmhojiomaaDoorChain
import Derived.Test.YtffianmhojiomaaDoorOpen
namespace Go.Proofs.YtffianmhojiomaaDoor
set_option linter.unusedVariables false
set_option linter.unusedSimpArgs false
open Go.RowKit

/-- the first cut that covers a record frame -/
def findC (l : List Cut) (t : Int) : Option Cut := l.find? fun c => decide (c.inn ≤ t ∧ t < c.out)
/-- what a record frame plays -/
def atE (e : Edl) (t : Int) : ByteArray × Int × Bool :=
  if edlErr e = 0 then (match findC e.cuts t with | some c => (c.reel, srcAt c t, true) | none => (⟨#[]⟩, 0, false)) else (⟨#[]⟩, 0, false)
def atVal (r : ByteArray × Int × Bool) : Value := .tuple #[.agg #[.string r.1, .int .i64 r.2.1], .bool r.2.2]
theorem findC_drop {l : List Cut} {k : Nat} {r : Cut} {t : Int} (hr : l[k]? = some r) : findC (l.drop k) t = if r.inn ≤ t ∧ t < r.out then some r else findC (l.drop (k + 1)) t := by
  obtain ⟨hk, hk2⟩ := List.getElem?_eq_some_iff.1 hr
  rw [List.drop_eq_getElem_cons hk, hk2]
  unfold findC
  rw [List.find?_cons]
  by_cases h : r.inn ≤ t ∧ t < r.out
  · rw [if_pos h, decide_eq_true h]
  · rw [if_neg h, decide_eq_false h]
theorem atE_err {e : Edl} {t : Int} (h : edlErr e ≠ 0) : atE e t = (⟨#[]⟩, 0, false) := by unfold atE; rw [if_neg h]
theorem atE_some {e : Edl} {t : Int} {c : Cut} (h : edlErr e = 0) (hf : findC e.cuts t = some c) : atE e t = (c.reel, srcAt c t, true) := by unfold atE; rw [if_pos h, hf]
theorem atE_none {e : Edl} {t : Int} (h : edlErr e = 0) (hf : findC e.cuts t = none) : atE e t = (⟨#[]⟩, 0, false) := by unfold atE; rw [if_pos h, hf]
def AtRel (w1 : World) (n : Nat) (l : List Cut) (t : Int) (i : Value) (wr : World) : Prop := ∃ k : Nat, k ≤ n ∧ i = .int .i64 k ∧ Ext w1 wr ∧ findC l t = findC (l.drop k) t
def AtSt (W : World) (g : Nat) (T : TypeId) (v : Value) (cs : Array Value) : List Value → World → Prop
  | [], w => Ext W w
  | [u], w => u = v ∧ Ext W w
  | [_, u], w => u = .agg cs ∧ Ext W w
  | [_, _, _], w => ∃ w5, Ext W w5 ∧ w = putB w5 g T cs
  | [_, _, _, b], w => b = .bool true ∧ ∃ w5, Ext W w5 ∧ w = putB w5 g T cs
  | _, _ => False
theorem AtSt.ext {W : World} {g : Nat} {T : TypeId} {v : Value} {cs : Array Value} : ∀ {us : List Value} {w : World}, AtSt W g T v cs us w → us.length ≤ 1 → Ext W w
  | [], _, h, _ => h
  | [_], _, h, _ => h.2
  | _ :: _ :: _, _, _, h => by simp at h
theorem size_src : (Tryd.prog.info? 29).map (·.size) = some 2 := by kernel_rfl
/-- what a list of cuts must have to be looked at -/
structure EdlOk (e : Edl) : Prop where
  r0 : 0 ≤ e.rate
  r1 : e.rate ≤ 255
  title : e.title.size ≤ 140737488351232
  fits : ∀ c ∈ e.cuts, c.Fits

set_option maxRecDepth 100000 in
set_option maxHeartbeats 4000000 in
theorem At_any (e : Edl) (A : Option Addr) (n c : Nat) (t : Int) (w : World) (hE : Env w) (hl : CutsAt w A n e.cuts) (hn : n ≤ 1000000) (hok : EdlOk e) :
    Calls Tryd.prog 11 #[.agg (e.cells A n c), .int .i64 t] w fun en w' => en = .returned (atVal (atE e t)) ∧ Ext w w' := by
  have HL := Lib.hid hl
  have HLn := Lib.hid hl.len
  have HX := Lib.hid (((Ext.refl w).alloc (.cells (e.cells A n c) 32)).alloc (.cells #[.string ⟨#[]⟩, .int .i64 0] 29))
  have HB0 := Lib.hid ((Blk.new w 32 (e.cells A n c)).alloc (.cells #[.string ⟨#[]⟩, .int .i64 0] 29))
  have HB1 := Lib.hid (Blk.new' (w := w.alloc (.cells (e.cells A n c) 32)) (g := w.heap.size + 1) (t := 29) (cs := #[.string ⟨#[]⟩, .int .i64 0]) (by simp))
  have HCk := Lib.hid (fun w' (hx : Ext w w') => Check_any e A n c w' (hE.ext hx) (hl.ext hx) hn hok.r0 hok.r1 hok.title hok.fits)
  have HSn := Lib.hid (fun (h : edlErr e = 0) (c : Cut) (hc : c ∈ e.cuts) => edl_sane h hc)
  have HE := Lib.hid (@atE_err e t)
  have HSm := Lib.hid (fun c => @atE_some e t c)
  have HNn := Lib.hid (@atE_none e t)
  clear hl hok hE
  unfold Edl.cells at *
  go_enter Tryd.func11, Tryd.ntmps11
  go_wp2_with (refine wpList_loadB rfl 32 (.tmp 2) rfl w.heap.size 32 _ _ (by exact rfl) (by exact HB0.out) Tryd.underlying32 rfl (by exact size_list) ?_)
  refine (HCk.out _ HX.out).mono ?_
  rintro en w1 ⟨rfl, hx1⟩
  have HX1 := Lib.hid (HX.out.trans hx1)
  have HBl := Lib.hid (HB0.out.ext hx1)
  have HBr := Lib.hid (HB1.out.ext hx1)
  clear hx1 HB0 HB1 HX
  by_cases hee : edlErr e = 0
  case neg =>
    have hne : (edlErr e != 0) = true := by simpa using hee
    have HEr := Lib.hid hee
    clear hee
    go_wp2_with (refine wpList_storeB rfl 29 (.tmp 4) (.tmp 11) rfl (w.heap.size + 1) 29 _ _ (by exact rfl) (by exact rfl) (by exact HBr.out) (by exact rfl) (by exact size_src) (by simp [Value.oneCell']) ?_)
    refine bodyPost_ret (v := atVal (⟨#[]⟩, 0, false)) ?_ rfl ⟨by rw [HE.out HEr.out], ?_⟩
    · exact results_B_tmp (P := Tryd.prog) Tryd.results11 (g := w.heap.size + 1) rfl (by exact HBr.out.put _) Tryd.underlying29 rfl size_src
    · exact HX1.out.put (by omega) _ _
  case pos =>
    rw [hee]
    have HZ := Lib.hid hee
    clear hee
    have hcell1 := fun o => HBl.out.cell o
    go_wp2_with fail
    clear hcell1
    go_loopw [15] (fun i wr => AtRel w1 n e.cuts t i wr) (fun i _ => n - (intOf i).toNat)
    case atStart => exact ⟨0, Nat.zero_le _, rfl, Ext.refl _, by simp⟩
    case round =>
      obtain ⟨k, hk, rfl, hx, hP⟩ := hrel
      have HXr := Lib.hid (HX1.out.trans hx)
      have HBrr := Lib.hid (HBr.out.ext hx)
      by_cases hlt : k < n
      · obtain ⟨b, off, r, rfl, hr, c0, c1, c2, c3, c4, c5, c6⟩ := (HL.out.ext HXr.out).at7 hlt
        have HS := Lib.hid (findC_drop (t := t) hr)
        have HP := Lib.hid hP
        have hsn := HSn.out HZ.out r (List.mem_of_getElem? hr)
        have HSane := Lib.hid hsn
        clear hr hP hsn
        obtain ⟨num, rl, src, inn, out, nn, dd⟩ := r
        have HBc := Lib.hid (Blk.new wr 67 (Cut.cells ⟨num, rl, src, inn, out, nn, dd⟩))
        have HXc := Lib.hid ((Ext.refl wr).alloc (.cells (Cut.cells ⟨num, rl, src, inn, out, nn, dd⟩) 67))
        unfold Cut.cells at HBc HXc
        dsimp only at *
        by_cases h1 : inn ≤ t
        · by_cases h2 : t < out
          · have HSr := Lib.hid (source_any ⟨num, rl, src, inn, out, nn, dd⟩ t · HSane.out h1 h2)
            have HF := Lib.hid (HSm.out _ HZ.out (HP.out.trans (by rw [HS.out, if_pos ⟨h1, h2⟩])))
            unfold Cut.cells at HSr
            dsimp only at *
            have HBrc := Lib.hid (HBrr.out.ext HXc.out)
            have hgr := HBr.out.lt
            have hgs := HX1.out.size
            go_wp2_with fail
            have HXW := Lib.hid (HXr.out.trans HXc.out)
            generalize wr.alloc (.cells #[.int .i64 num, .string rl, .int .i64 src, .int .i64 inn, .int .i64 out, .int .i64 nn, .int .i64 dd] 67) = W at *
            generalize wr.heap.size = gc at *
            clear c0 c1 c2 c3 c4 c5 c6
            refine wp_region_links [some 31, some 32, some 33, some 34, some 35, some 36, none, some 5] [[], [0], [], [], [2, 3], [1, 4], [5, 4, 0, 1, 2, 3, 4, 5], [6, 0, 1, 2, 3, 4, 5, 6]] [4, 5, 6, 7] [.pointer (some ⟨gc, 1, none⟩), .string rl, .agg #[.int .i64 num, .string rl, .int .i64 src, .int .i64 inn, .int .i64 out, .int .i64 nn, .int .i64 dd], .int .i64 t, undef, undef, undef, undef] (AtSt W (w.heap.size + 1) 29 (.int .i64 (srcAt ⟨num, rl, src, inn, out, nn, dd⟩ t)) #[.string rl, .int .i64 (srcAt ⟨num, rl, src, inn, out, nn, dd⟩ t)]) (by kernel_rfl) (by kernel_rfl) (by kernel_rfl) (by kernel_rfl) (by kernel_rfl) (by kernel_rfl) (by kernel_rfl) (by decide) ?_ ?_ ?_ ?_
            · exact (Ext.refl W).drew
            · intro i o ho hc a w' us K' hJ hF hlim hk
              match i, ho with
              | 0, ho =>
                simp only [List.getElem?_toArray, List.getElem?_cons_zero, List.getElem?_cons_succ, Option.some.injEq] at ho
                subst ho
                have e7 := hF.old 7 (.pointer (some ⟨gc, 0, none⟩)) rfl rfl
                simp only [Act.eval] at e7
                clear hF hlim hJ
                go_simp
                exact hk
              | 1, ho =>
                simp only [List.getElem?_toArray, List.getElem?_cons_zero, List.getElem?_cons_succ, Option.some.injEq] at ho
                subst ho
                have e31 := hF.pure 0 31 (.pointer (some ⟨gc, 1, none⟩)) rfl rfl rfl rfl
                have hcl : w'.cell? ⟨gc, 1, none⟩ = some (.string rl) := (HBc.out.ext (hJ.ext (hlim 1 5 rfl rfl))).cell 1
                simp only [Act.eval] at e31
                clear hF hlim hJ
                go_simp
                exact hk
              | 2, ho =>
                simp only [List.getElem?_toArray, List.getElem?_cons_zero, List.getElem?_cons_succ, Option.some.injEq] at ho
                subst ho
                have e7 := hF.old 7 (.pointer (some ⟨gc, 0, none⟩)) rfl rfl
                exact wp_loadB 67 (.tmp 7) rfl gc 67 _ _ e7 (HBc.out.ext (hJ.ext (by have := hlim 0 4 rfl rfl; omega))) Tryd.underlying67 rfl (by exact size_cut) hk
              | 3, ho =>
                simp only [List.getElem?_toArray, List.getElem?_cons_zero, List.getElem?_cons_succ, Option.some.injEq] at ho
                subst ho
                have e1 := hF.old 1 (.int .i64 t) rfl rfl
                simp only [Act.eval] at e1
                clear hF hlim hJ
                go_simp
                exact hk
              | 4, ho => simp at hc
              | 5, ho => simp at hc
              | 6, ho => simp at hc
              | 7, ho => simp at hc
              | i + 8, ho => simp at ho
            · intro p c' o hp ho a w' us K' hl hJ hF hk
              match p, hp with
              | 0, hp =>
                obtain rfl : 4 = c' := by simpa using hp
                simp only [List.getElem?_toArray, List.getElem?_cons_zero, List.getElem?_cons_succ, Option.some.injEq] at ho
                subst ho
                obtain rfl : us = [] := List.eq_nil_of_length_eq_zero hl
                have e33 := hF.pure 2 33 (.agg #[.int .i64 num, .string rl, .int .i64 src, .int .i64 inn, .int .i64 out, .int .i64 nn, .int .i64 dd]) rfl rfl rfl rfl
                have e34 := hF.pure 3 34 (.int .i64 t) rfl rfl rfl rfl
                exact wp_call2 rfl e33 e34 Tryd.call28 (HSr.out _) (fun w5 hx5 => hk _ w5 ⟨rfl, Ext.trans hJ hx5⟩)
              | 1, hp =>
                obtain rfl : 5 = c' := by simpa using hp
                simp only [List.getElem?_toArray, List.getElem?_cons_zero, List.getElem?_cons_succ, Option.some.injEq] at ho
                subst ho
                obtain ⟨u0, rfl⟩ := list_1 hl
                have e32 := hF.pure 1 32 (.string rl) rfl rfl rfl rfl
                have e35 := hF.link 0 4 35 _ rfl rfl rfl rfl
                obtain ⟨rfl, hx⟩ := hJ
                have HK := Lib.hid (hk (.agg #[.string rl, .int .i64 (srcAt ⟨num, rl, src, inn, out, nn, dd⟩ t)]) w' ⟨rfl, hx⟩)
                have f32 : a.tmps[32]?.getD undef = .string rl := by simpa [Act.eval] using e32
                have f35 : a.tmps[35]?.getD undef = .int .i64 (srcAt ⟨num, rl, src, inn, out, nn, dd⟩ t) := by simpa [Act.eval] using e35
                clear hF hk
                go_simp
                exact HK.out
              | 2, hp =>
                obtain rfl : 6 = c' := by simpa using hp
                simp only [List.getElem?_toArray, List.getElem?_cons_zero, List.getElem?_cons_succ, Option.some.injEq] at ho
                subst ho
                obtain ⟨u0, u1, rfl⟩ := list_2 hl
                have e4 := hF.old 4 (.pointer (some ⟨w.heap.size + 1, 0, none⟩)) rfl rfl
                have e36 := hF.link 1 5 36 _ rfl rfl rfl rfl
                obtain ⟨rfl, hx⟩ := hJ
                exact wp_storeB 29 (.tmp 4) (.tmp 36) rfl (w.heap.size + 1) 29 _ _ e4 e36 (by exact size_src) (by simp [Value.oneCell']) (HBrc.out.ext hx) rfl (hk _ _ ⟨w', hx, rfl⟩)
              | 3, hp =>
                obtain rfl : 7 = c' := by simpa using hp
                simp only [List.getElem?_toArray, List.getElem?_cons_zero, List.getElem?_cons_succ, Option.some.injEq] at ho
                subst ho
                obtain ⟨u0, u1, u2, rfl⟩ := list_3 hl
                exact wp_assign _ rfl (hk _ _ ⟨rfl, hJ⟩)
              | p + 4, hp => simp at hp
            intro us w7 hl hJ
            obtain ⟨u0, u1, u2, u3, rfl⟩ := list_4 hl
            rename_i hK
            refine hK _ _ ?_
            clear hK
            generalize hL : frameL _ _ _ _ = L
            obtain rfl : L = [(31, .pointer (some ⟨gc, 1, none⟩)), (32, .string rl), (33, .agg #[.int .i64 num, .string rl, .int .i64 src, .int .i64 inn, .int .i64 out, .int .i64 nn, .int .i64 dd]), (34, .int .i64 t), (35, u0), (36, u1), (5, u3)] := hL.symm.trans (by kernel_rfl)
            clear hL hl
            simp only [Act.put, List.foldl_cons, List.foldl_nil, List.setIfInBounds_toArray, List.set_cons_zero, List.set_cons_succ]
            obtain ⟨rfl, w5, hx5, rfl⟩ := hJ
            have HB5 := Lib.hid (HBrc.out.ext hx5)
            go_wp2_with fail
            refine bodyPost_ret (v := atVal (rl, srcAt ⟨num, rl, src, inn, out, nn, dd⟩ t, true)) ?_ rfl ⟨by rw [HF.out], ?_⟩
            · exact results_B_tmp (P := Tryd.prog) Tryd.results11 (g := w.heap.size + 1) rfl (by exact HB5.out.put _) Tryd.underlying29 rfl size_src
            · exact (HXW.out.trans hx5).put (by omega) _ _
          · have HF := Lib.hid (HP.out.trans (by rw [HS.out, if_neg (fun h => h2 h.2)] : _ = findC (e.cuts.drop (k + 1)) t))
            go_wp2_with fail
            exact ⟨⟨k + 1, by omega, by go_num, hx.trans HXc.out, HF.out⟩, by simp [intOf]; omega⟩
        · have HF := Lib.hid (HP.out.trans (by rw [HS.out, if_neg (fun h => h1 h.1)] : _ = findC (e.cuts.drop (k + 1)) t))
          go_wp2_with fail
          exact ⟨⟨k + 1, by omega, by go_num, hx.trans HXc.out, HF.out⟩, by simp [intOf]; omega⟩
      · have hkn : k = n := by omega
        subst hkn
        have HF := Lib.hid (HNn.out HZ.out (hP.trans (by rw [List.drop_eq_nil_of_le (by have := HLn.out; omega)]; rfl)))
        clear hP
        go_wp2_with (refine wpList_storeB rfl 29 (.tmp 4) (.tmp 38) rfl (w.heap.size + 1) 29 _ _ (by exact rfl) (by exact rfl) (by exact HBrr.out) (by exact rfl) (by exact size_src) (by simp [Value.oneCell']) ?_)
        refine bodyPost_ret (v := atVal (⟨#[]⟩, 0, false)) ?_ rfl ⟨by rw [HF.out], ?_⟩
        · exact results_B_tmp (P := Tryd.prog) Tryd.results11 (g := w.heap.size + 1) rfl (by exact HBrr.out.put _) Tryd.underlying29 rfl size_src
        · exact HXr.out.put (by omega) _ _

set_option maxRecDepth 100000 in
set_option maxHeartbeats 4000000 in
theorem RAt_any (e : Edl) (A : Option Addr) (n c : Nat) (t : Int) (w : World) (hl : CutsAt w A n e.cuts) (hn : n ≤ 1000000) (hok : EdlOk e) :
    Calls Tryd.prog 13 #[.agg (e.cells A n c), .int .i64 t] w fun en w' => en = .returned (atVal (atE e t)) ∧ Ext w w' := by
  have HL := Lib.hid hl
  have HLn := Lib.hid hl.len
  have HX := Lib.hid (((Ext.refl w).alloc (.cells (e.cells A n c) 25)).alloc (.cells #[.string ⟨#[]⟩, .int .i64 0] 29))
  have HB0 := Lib.hid ((Blk.new w 25 (e.cells A n c)).alloc (.cells #[.string ⟨#[]⟩, .int .i64 0] 29))
  have HB1 := Lib.hid (Blk.new' (w := w.alloc (.cells (e.cells A n c) 25)) (g := w.heap.size + 1) (t := 29) (cs := #[.string ⟨#[]⟩, .int .i64 0]) (by simp))
  have HCk := Lib.hid (fun w' (hx : Ext w w') => RCheck_any e A n c w' (hl.ext hx) hn hok.r0 hok.r1 hok.title hok.fits)
  have HSn := Lib.hid (fun (h : edlErr e = 0) (c : Cut) (hc : c ∈ e.cuts) => edl_sane h hc)
  have HE := Lib.hid (@atE_err e t)
  have HSm := Lib.hid (fun c => @atE_some e t c)
  have HNn := Lib.hid (@atE_none e t)
  clear hl hok
  unfold Edl.cells at *
  go_enter Tryd.func13, Tryd.ntmps13
  go_wp2_with (refine wpList_loadB rfl 25 (.tmp 2) rfl w.heap.size 25 _ _ (by exact rfl) (by exact HB0.out) Tryd.underlying25 rfl (by exact rsize_list) ?_)
  refine (HCk.out _ HX.out).mono ?_
  rintro en w1 ⟨rfl, hx1⟩
  have HX1 := Lib.hid (HX.out.trans hx1)
  have HBl := Lib.hid (HB0.out.ext hx1)
  have HBr := Lib.hid (HB1.out.ext hx1)
  clear hx1 HB0 HB1 HX
  by_cases hee : edlErr e = 0
  case neg =>
    have hne : (edlErr e != 0) = true := by simpa using hee
    have HEr := Lib.hid hee
    clear hee
    go_wp2_with (refine wpList_storeB rfl 29 (.tmp 4) (.tmp 11) rfl (w.heap.size + 1) 29 _ _ (by exact rfl) (by exact rfl) (by exact HBr.out) (by exact rfl) (by exact size_src) (by simp [Value.oneCell']) ?_)
    refine bodyPost_ret (v := atVal (⟨#[]⟩, 0, false)) ?_ rfl ⟨by rw [HE.out HEr.out], ?_⟩
    · exact results_B_tmp (P := Tryd.prog) Tryd.results13 (g := w.heap.size + 1) rfl (by exact HBr.out.put _) Tryd.underlying29 rfl size_src
    · exact HX1.out.put (by omega) _ _
  case pos =>
    rw [hee]
    have HZ := Lib.hid hee
    clear hee
    have hcell1 := fun o => HBl.out.cell o
    go_wp2_with fail
    clear hcell1
    go_loopw [15] (fun i wr => AtRel w1 n e.cuts t i wr) (fun i _ => n - (intOf i).toNat)
    case atStart => exact ⟨0, Nat.zero_le _, rfl, Ext.refl _, by simp⟩
    case round =>
      obtain ⟨k, hk, rfl, hx, hP⟩ := hrel
      have HXr := Lib.hid (HX1.out.trans hx)
      have HBrr := Lib.hid (HBr.out.ext hx)
      by_cases hlt : k < n
      · obtain ⟨b, off, r, rfl, hr, c0, c1, c2, c3, c4, c5, c6⟩ := (HL.out.ext HXr.out).at7 hlt
        have HS := Lib.hid (findC_drop (t := t) hr)
        have HP := Lib.hid hP
        have hsn := HSn.out HZ.out r (List.mem_of_getElem? hr)
        have HSane := Lib.hid hsn
        clear hr hP hsn
        obtain ⟨num, rl, src, inn, out, nn, dd⟩ := r
        have HBc := Lib.hid (Blk.new wr 67 (Cut.cells ⟨num, rl, src, inn, out, nn, dd⟩))
        have HXc := Lib.hid ((Ext.refl wr).alloc (.cells (Cut.cells ⟨num, rl, src, inn, out, nn, dd⟩) 67))
        unfold Cut.cells at HBc HXc
        dsimp only at *
        by_cases h1 : inn ≤ t
        · by_cases h2 : t < out
          · have HSr := Lib.hid (Played_any ⟨num, rl, src, inn, out, nn, dd⟩ t · HSane.out h1 h2)
            have HF := Lib.hid (HSm.out _ HZ.out (HP.out.trans (by rw [HS.out, if_pos ⟨h1, h2⟩])))
            unfold Cut.cells at HSr
            dsimp only at *
            have HBrc := Lib.hid (HBrr.out.ext HXc.out)
            have hgr := HBr.out.lt
            have hgs := HX1.out.size
            go_wp2_with fail
            have HXW := Lib.hid (HXr.out.trans HXc.out)
            generalize wr.alloc (.cells #[.int .i64 num, .string rl, .int .i64 src, .int .i64 inn, .int .i64 out, .int .i64 nn, .int .i64 dd] 67) = W at *
            generalize wr.heap.size = gc at *
            clear c0 c1 c2 c3 c4 c5 c6
            refine wp_region_links [some 31, some 32, some 33, some 34, some 35, some 36, none, some 5] [[], [0], [], [], [2, 3], [1, 4], [5, 4, 0, 1, 2, 3, 4, 5], [6, 0, 1, 2, 3, 4, 5, 6]] [4, 5, 6, 7] [.pointer (some ⟨gc, 1, none⟩), .string rl, .agg #[.int .i64 num, .string rl, .int .i64 src, .int .i64 inn, .int .i64 out, .int .i64 nn, .int .i64 dd], .int .i64 t, undef, undef, undef, undef] (AtSt W (w.heap.size + 1) 29 (.int .i64 (srcAt ⟨num, rl, src, inn, out, nn, dd⟩ t)) #[.string rl, .int .i64 (srcAt ⟨num, rl, src, inn, out, nn, dd⟩ t)]) (by kernel_rfl) (by kernel_rfl) (by kernel_rfl) (by kernel_rfl) (by kernel_rfl) (by kernel_rfl) (by kernel_rfl) (by decide) ?_ ?_ ?_ ?_
            · exact (Ext.refl W).drew
            · intro i o ho hc a w' us K' hJ hF hlim hk
              match i, ho with
              | 0, ho =>
                simp only [List.getElem?_toArray, List.getElem?_cons_zero, List.getElem?_cons_succ, Option.some.injEq] at ho
                subst ho
                have e7 := hF.old 7 (.pointer (some ⟨gc, 0, none⟩)) rfl rfl
                simp only [Act.eval] at e7
                clear hF hlim hJ
                go_simp
                exact hk
              | 1, ho =>
                simp only [List.getElem?_toArray, List.getElem?_cons_zero, List.getElem?_cons_succ, Option.some.injEq] at ho
                subst ho
                have e31 := hF.pure 0 31 (.pointer (some ⟨gc, 1, none⟩)) rfl rfl rfl rfl
                have hcl : w'.cell? ⟨gc, 1, none⟩ = some (.string rl) := (HBc.out.ext (hJ.ext (hlim 1 5 rfl rfl))).cell 1
                simp only [Act.eval] at e31
                clear hF hlim hJ
                go_simp
                exact hk
              | 2, ho =>
                simp only [List.getElem?_toArray, List.getElem?_cons_zero, List.getElem?_cons_succ, Option.some.injEq] at ho
                subst ho
                have e7 := hF.old 7 (.pointer (some ⟨gc, 0, none⟩)) rfl rfl
                exact wp_loadB 67 (.tmp 7) rfl gc 67 _ _ e7 (HBc.out.ext (hJ.ext (by have := hlim 0 4 rfl rfl; omega))) Tryd.underlying67 rfl (by exact size_cut) hk
              | 3, ho =>
                simp only [List.getElem?_toArray, List.getElem?_cons_zero, List.getElem?_cons_succ, Option.some.injEq] at ho
                subst ho
                have e1 := hF.old 1 (.int .i64 t) rfl rfl
                simp only [Act.eval] at e1
                clear hF hlim hJ
                go_simp
                exact hk
              | 4, ho => simp at hc
              | 5, ho => simp at hc
              | 6, ho => simp at hc
              | 7, ho => simp at hc
              | i + 8, ho => simp at ho
            · intro p c' o hp ho a w' us K' hl hJ hF hk
              match p, hp with
              | 0, hp =>
                obtain rfl : 4 = c' := by simpa using hp
                simp only [List.getElem?_toArray, List.getElem?_cons_zero, List.getElem?_cons_succ, Option.some.injEq] at ho
                subst ho
                obtain rfl : us = [] := List.eq_nil_of_length_eq_zero hl
                have e33 := hF.pure 2 33 (.agg #[.int .i64 num, .string rl, .int .i64 src, .int .i64 inn, .int .i64 out, .int .i64 nn, .int .i64 dd]) rfl rfl rfl rfl
                have e34 := hF.pure 3 34 (.int .i64 t) rfl rfl rfl rfl
                exact wp_call2 rfl e33 e34 Tryd.call30 (HSr.out _) (fun w5 hx5 => hk _ w5 ⟨rfl, Ext.trans hJ hx5⟩)
              | 1, hp =>
                obtain rfl : 5 = c' := by simpa using hp
                simp only [List.getElem?_toArray, List.getElem?_cons_zero, List.getElem?_cons_succ, Option.some.injEq] at ho
                subst ho
                obtain ⟨u0, rfl⟩ := list_1 hl
                have e32 := hF.pure 1 32 (.string rl) rfl rfl rfl rfl
                have e35 := hF.link 0 4 35 _ rfl rfl rfl rfl
                obtain ⟨rfl, hx⟩ := hJ
                have HK := Lib.hid (hk (.agg #[.string rl, .int .i64 (srcAt ⟨num, rl, src, inn, out, nn, dd⟩ t)]) w' ⟨rfl, hx⟩)
                have f32 : a.tmps[32]?.getD undef = .string rl := by simpa [Act.eval] using e32
                have f35 : a.tmps[35]?.getD undef = .int .i64 (srcAt ⟨num, rl, src, inn, out, nn, dd⟩ t) := by simpa [Act.eval] using e35
                clear hF hk
                go_simp
                exact HK.out
              | 2, hp =>
                obtain rfl : 6 = c' := by simpa using hp
                simp only [List.getElem?_toArray, List.getElem?_cons_zero, List.getElem?_cons_succ, Option.some.injEq] at ho
                subst ho
                obtain ⟨u0, u1, rfl⟩ := list_2 hl
                have e4 := hF.old 4 (.pointer (some ⟨w.heap.size + 1, 0, none⟩)) rfl rfl
                have e36 := hF.link 1 5 36 _ rfl rfl rfl rfl
                obtain ⟨rfl, hx⟩ := hJ
                exact wp_storeB 29 (.tmp 4) (.tmp 36) rfl (w.heap.size + 1) 29 _ _ e4 e36 (by exact size_src) (by simp [Value.oneCell']) (HBrc.out.ext hx) rfl (hk _ _ ⟨w', hx, rfl⟩)
              | 3, hp =>
                obtain rfl : 7 = c' := by simpa using hp
                simp only [List.getElem?_toArray, List.getElem?_cons_zero, List.getElem?_cons_succ, Option.some.injEq] at ho
                subst ho
                obtain ⟨u0, u1, u2, rfl⟩ := list_3 hl
                exact wp_assign _ rfl (hk _ _ ⟨rfl, hJ⟩)
              | p + 4, hp => simp at hp
            intro us w7 hl hJ
            obtain ⟨u0, u1, u2, u3, rfl⟩ := list_4 hl
            rename_i hK
            refine hK _ _ ?_
            clear hK
            generalize hL : frameL _ _ _ _ = L
            obtain rfl : L = [(31, .pointer (some ⟨gc, 1, none⟩)), (32, .string rl), (33, .agg #[.int .i64 num, .string rl, .int .i64 src, .int .i64 inn, .int .i64 out, .int .i64 nn, .int .i64 dd]), (34, .int .i64 t), (35, u0), (36, u1), (5, u3)] := hL.symm.trans (by kernel_rfl)
            clear hL hl
            simp only [Act.put, List.foldl_cons, List.foldl_nil, List.setIfInBounds_toArray, List.set_cons_zero, List.set_cons_succ]
            obtain ⟨rfl, w5, hx5, rfl⟩ := hJ
            have HB5 := Lib.hid (HBrc.out.ext hx5)
            go_wp2_with fail
            refine bodyPost_ret (v := atVal (rl, srcAt ⟨num, rl, src, inn, out, nn, dd⟩ t, true)) ?_ rfl ⟨by rw [HF.out], ?_⟩
            · exact results_B_tmp (P := Tryd.prog) Tryd.results13 (g := w.heap.size + 1) rfl (by exact HB5.out.put _) Tryd.underlying29 rfl size_src
            · exact (HXW.out.trans hx5).put (by omega) _ _
          · have HF := Lib.hid (HP.out.trans (by rw [HS.out, if_neg (fun h => h2 h.2)] : _ = findC (e.cuts.drop (k + 1)) t))
            go_wp2_with fail
            exact ⟨⟨k + 1, by omega, by go_num, hx.trans HXc.out, HF.out⟩, by simp [intOf]; omega⟩
        · have HF := Lib.hid (HP.out.trans (by rw [HS.out, if_neg (fun h => h1 h.1)] : _ = findC (e.cuts.drop (k + 1)) t))
          go_wp2_with fail
          exact ⟨⟨k + 1, by omega, by go_num, hx.trans HXc.out, HF.out⟩, by simp [intOf]; omega⟩
      · have hkn : k = n := by omega
        subst hkn
        have HF := Lib.hid (HNn.out HZ.out (hP.trans (by rw [List.drop_eq_nil_of_le (by have := HLn.out; omega)]; rfl)))
        clear hP
        go_wp2_with (refine wpList_storeB rfl 29 (.tmp 4) (.tmp 38) rfl (w.heap.size + 1) 29 _ _ (by exact rfl) (by exact rfl) (by exact HBrr.out) (by exact rfl) (by exact size_src) (by simp [Value.oneCell']) ?_)
        refine bodyPost_ret (v := atVal (⟨#[]⟩, 0, false)) ?_ rfl ⟨by rw [HF.out], ?_⟩
        · exact results_B_tmp (P := Tryd.prog) Tryd.results13 (g := w.heap.size + 1) rfl (by exact HBrr.out.put _) Tryd.underlying29 rfl size_src
        · exact HXr.out.put (by omega) _ _
end Go.Proofs.YtffianmhojiomaaDoor
