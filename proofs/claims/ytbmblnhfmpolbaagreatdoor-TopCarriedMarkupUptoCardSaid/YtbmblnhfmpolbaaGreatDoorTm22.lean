/- Texts laid together. -/
import Derived.Test.YtbmblnhfmpolbaaGreatDoorTm20
import Derived.Test.YtbmblnhfmpolbaaGreatDoorTm21
import Derived.Test.YtbmblnhfmpolbaaGreatDoorTm14
import Derived.Test.YtbmblnhfmpolbaaGreatDoorTm13
import Derived.Test.YtbmblnhfmpolbaaGreatDoorTm17
import Derived.Test.YtbmblnhfmpolbaaGreatDoorTm15
import Derived.Test.YtbmblnhfmpolbaaGreatDoorTm18
set_option linter.unusedVariables false
set_option linter.unusedSimpArgs false
namespace Go.Proofs.YtbmblnhfmpolbaaGreatDoor
section
open Go.RowKit
theorem size_evX : (Tryz.prog.info? 60).map (·.size) = some 7 := by kernel_rfl
set_option maxHeartbeats 8000000 in
set_option maxRecDepth 100000 in
theorem add_ev (L b K : Nat) (D : Doc) (e : Ev) (tx : ByteArray) (A : Option Addr) (m c : Nat) (dep : Int) (w : World) (hD : DocBk w L b D K) (hok : EvOk e) (hat : AttrsK w A m (attrsF (evA e))) (hm : m ≤ 16) (hK : K ≤ 8192) :
 Calls Tryz.prog 34 #[.pointer (some ⟨b, 0, none⟩), .agg #[.string ⟨#[112]⟩, .string tx, .slice A m c, .int .i64 dep]] w (AddPost L b { D with evs := D.evs ++ [{ e with rows := [] }] } (K + 1) w) := by
 obtain ⟨vr, ve, hs, Lr, hB, hd, hLb⟩ := hD
 have hbw := hB.lt
 obtain ⟨Ae, ce, rfl, hce0, -⟩ := own_len hd.evs
 obtain ⟨Ar, cr, rfl, hcr0, -⟩ := own_len hd.regs
 have hrk := hd.few.2.1
 have hid := hok.id
 have hinn := hok.inn
 have hout := hok.out
 have hkin := hok.kind
 have HBn0 := Lib.hid (Blk.new w 87 #[.string ⟨#[112]⟩, .string tx, .slice A m c, .int .i64 dep])
 obtain ⟨W0, hW0⟩ : ∃ W0, W0 = (w.alloc (.cells #[.string ⟨#[112]⟩, .string tx, .slice A m c, .int .i64 dep] 87)).alloc (.cells #[.string ⟨#[112]⟩, .string tx, .slice A m c, .int .i64 dep, .int .i64 0] 146) := ⟨_, rfl⟩
 have HX0 : Hid (Ext w W0) := by show Ext _ _; rw [hW0]; exact ((Ext.refl w).alloc _).alloc _
 have HN0 : Hid (Blk W0 w.heap.size 87 #[.string ⟨#[112]⟩, .string tx, .slice A m c, .int .i64 dep]) := by show Blk _ _ _ _; rw [hW0]; exact HBn0.out.alloc _
 have HV0 : Hid (Blk W0 (w.heap.size + 1) 146 #[.string ⟨#[112]⟩, .string tx, .slice A m c, .int .i64 dep, .int .i64 0]) := by show Blk _ _ _ _; rw [hW0]; exact Blk.new' (by simp)
 have HB0 := Lib.hid (hB.ext HX0.out)
 have HD0 := Lib.hid (hd.ext HX0.out)
 have hcn0 := fun o => HBn0.out.cell o
 have hcb0 := fun o => ((hB.ext ((Ext.refl w).alloc (.cells #[.string ⟨#[112]⟩, .string tx, .slice A m c, .int .i64 dep] 87))).ext ((Ext.refl _).alloc (.cells #[.string ⟨#[112]⟩, .string tx, .slice A m c, .int .i64 dep, .int .i64 0] 146))).cell o
 unfold docC at hcb0 HB0
 have HW0 := Lib.hid hW0
 clear hW0
 go_enter Tryz.func34, Tryz.ntmps34
 have HVl : Hid (∀ w', Ext W0 w' → VlAt w' (w.heap.size + 1) ⟨#[112]⟩ tx (attrsF (evA e))) := fun w' h => ⟨A, m, c, dep, HV0.out.ext h, (hat.kb (KB.ext HX0.out)).kb (KB.ext h), hm⟩
 have HN1 := Lib.hid (fun w' (h : Ext W0 w') => vnumber_ok _ _ _ _ sId e.id 1099511627776 w' (HVl.out w' h) (ev_id e) (by omega) hid.2 (by decide))
 have HF1 := Lib.hid (fun w' (h : Ext W0 w') => vframe_ok _ _ _ _ sIn e.inn w' (HVl.out w' h) (ev_in e) hinn.1 hinn.2)
 have HF2 := Lib.hid (fun w' (h : Ext W0 w') => vframe_ok _ _ _ _ sOut e.out w' (HVl.out w' h) (ev_out e) hout.1 hout.2)
 have HT1 : Hid (∀ w', Ext W0 w' → Calls Tryz.prog 62 #[.pointer (some ⟨w.heap.size + 1, 0, none⟩), .string ⟨#[114, 101, 103, 105, 111, 110]⟩] w' fun en w2 => en = .returned (.string e.region) ∧ Ext w' w2) := fun w' h => by
  have := vtext_any _ _ _ _ sRegion w' (HVl.out w' h)
  rw [ev_region] at this
  exact this
 have HT2 : Hid (∀ w', Ext W0 w' → Calls Tryz.prog 62 #[.pointer (some ⟨w.heap.size + 1, 0, none⟩), .string ⟨#[107, 105, 110, 100]⟩] w' fun en w2 => en = .returned (.string (kindS e.kind)) ∧ Ext w' w2) := fun w' h => by
  have := vtext_any _ _ _ _ sKind w' (HVl.out w' h)
  rw [ev_kind] at this
  exact this
 have HT3 : Hid (∀ w', Ext W0 w' → Calls Tryz.prog 62 #[.pointer (some ⟨w.heap.size + 1, 0, none⟩), .string ⟨#[115, 112, 101, 97, 107, 101, 114]⟩] w' fun en w2 => en = .returned (.string e.speaker) ∧ Ext w' w2) := fun w' h => by
  have := vtext_any _ _ _ _ sSpeaker w' (HVl.out w' h)
  rw [ev_speaker] at this
  exact this
 have HPk := Lib.hid (fun w' => PKind_ok e.kind w' hkin.1 hkin.2)
 have HAt := Lib.hid hat
 clear hB hd hat hid hinn hout hkin
 go_wp2_with (refine wpList_loadB rfl 87 (.tmp 3) rfl w.heap.size 87 _ _ (by exact rfl) (by exact HBn0.out) Tryz.underlying87 rfl (by exact size_nodeI) ?_)
 rw [← HW0.out]
 refine (HN1.out _ (Ext.refl _)).mono ?_
 rintro e1 w1 ⟨rfl, hx2⟩
 have HXw1 := Lib.hid ((Ext.refl W0).trans hx2)
 clear hx2
 go_wp2_with fail
 have HG0 : Hid (W0.heap.size ≤ w1.heap.size) := HXw1.out.size
 have HXwa := Lib.hid (HXw1.out.alloc (.cells #[.int .i64 e.id, .int .i64 0, .int .i64 0, .string ⟨#[]⟩, .int .u8 0, .string ⟨#[]⟩, .slice none 0 0] 60))
 have HBr1 := Lib.hid (Blk.new w1 60 #[.int .i64 e.id, .int .i64 0, .int .i64 0, .string ⟨#[]⟩, .int .u8 0, .string ⟨#[]⟩, .slice none 0 0])
 obtain ⟨wa, hwa⟩ : ∃ wa, wa = w1.alloc (.cells #[.int .i64 e.id, .int .i64 0, .int .i64 0, .string ⟨#[]⟩, .int .u8 0, .string ⟨#[]⟩, .slice none 0 0] 60) := ⟨_, rfl⟩
 rw [← hwa] at HXwa HBr1 ⊢
 obtain ⟨g0, hg0⟩ : ∃ g0, g0 = w1.heap.size := ⟨_, rfl⟩
 rw [← hg0] at HG0 HBr1 ⊢
 clear hwa hg0 HXw1
 have HBr := Lib.hid HBr1.out
 clear HBr1
 refine (HF1.out _ HXwa.out).mono ?_
 rintro e1 wb ⟨rfl, hxq⟩
 have HXwb := Lib.hid (HXwa.out.trans hxq)
 have HBq := Lib.hid (HBr.out.ext hxq)
 have hcr := fun o => HBq.out.cell o
 have hfr := fun o => HBq.out.frozen o
 have hsr := fun u => setCell_put HBq.out 1 u
 clear hxq
 go_wp2_with fail
 obtain ⟨wc, hwo⟩ : ∃ wc, wc = putB wb g0 60 #[.int .i64 e.id, .int .i64 e.inn, .int .i64 0, .string ⟨#[]⟩, .int .u8 0, .string ⟨#[]⟩, .slice none 0 0] := ⟨_, rfl⟩
 rw [← hwo]
 have HXwc : Hid (Ext W0 wc) := by show Ext _ _; rw [hwo]; exact HXwb.out.put HG0.out _ _
 clear HBr
 have HBr : Hid (Blk wc g0 60 #[.int .i64 e.id, .int .i64 e.inn, .int .i64 0, .string ⟨#[]⟩, .int .u8 0, .string ⟨#[]⟩, .slice none 0 0]) := by show Blk _ _ _ _; rw [hwo]; exact HBq.out.put _
 clear hwo HBq hcr hfr hsr
 refine (HF2.out _ HXwc.out).mono ?_
 rintro e1 wd ⟨rfl, hxq⟩
 have HXwd := Lib.hid (HXwc.out.trans hxq)
 have HBq := Lib.hid (HBr.out.ext hxq)
 have hcr := fun o => HBq.out.cell o
 have hfr := fun o => HBq.out.frozen o
 have hsr := fun u => setCell_put HBq.out 2 u
 clear hxq
 go_wp2_with fail
 obtain ⟨we, hwo⟩ : ∃ we, we = putB wd g0 60 #[.int .i64 e.id, .int .i64 e.inn, .int .i64 e.out, .string ⟨#[]⟩, .int .u8 0, .string ⟨#[]⟩, .slice none 0 0] := ⟨_, rfl⟩
 rw [← hwo]
 have HXwe : Hid (Ext W0 we) := by show Ext _ _; rw [hwo]; exact HXwd.out.put HG0.out _ _
 clear HBr
 have HBr : Hid (Blk we g0 60 #[.int .i64 e.id, .int .i64 e.inn, .int .i64 e.out, .string ⟨#[]⟩, .int .u8 0, .string ⟨#[]⟩, .slice none 0 0]) := by show Blk _ _ _ _; rw [hwo]; exact HBq.out.put _
 clear hwo HBq hcr hfr hsr
 refine (HT1.out _ HXwe.out).mono ?_
 rintro e1 wf ⟨rfl, hxq⟩
 have HXwf := Lib.hid (HXwe.out.trans hxq)
 have HBq := Lib.hid (HBr.out.ext hxq)
 have hcr := fun o => HBq.out.cell o
 have hfr := fun o => HBq.out.frozen o
 have hsr := fun u => setCell_put HBq.out 3 u
 clear hxq
 go_wp2_with fail
 obtain ⟨wg, hwo⟩ : ∃ wg, wg = putB wf g0 60 #[.int .i64 e.id, .int .i64 e.inn, .int .i64 e.out, .string e.region, .int .u8 0, .string ⟨#[]⟩, .slice none 0 0] := ⟨_, rfl⟩
 rw [← hwo]
 have HXwg : Hid (Ext W0 wg) := by show Ext _ _; rw [hwo]; exact HXwf.out.put HG0.out _ _
 clear HBr
 have HBr : Hid (Blk wg g0 60 #[.int .i64 e.id, .int .i64 e.inn, .int .i64 e.out, .string e.region, .int .u8 0, .string ⟨#[]⟩, .slice none 0 0]) := by show Blk _ _ _ _; rw [hwo]; exact HBq.out.put _
 clear hwo HBq hcr hfr hsr
 refine (HT2.out _ HXwg.out).mono ?_
 rintro e1 wh ⟨rfl, hx1⟩
 have HXwh := Lib.hid (HXwg.out.trans hx1)
 go_wp2_with fail
 refine (HPk.out _).mono ?_
 rintro e1 wi ⟨rfl, hx2⟩
 have HXwi := Lib.hid (HXwh.out.trans hx2)
 go_wp2_with fail
 refine (HT3.out _ HXwi.out).mono ?_
 rintro e1 wj ⟨rfl, hx3⟩
 have HXwj := Lib.hid (HXwi.out.trans hx3)
 have hxq := (hx1.trans hx2).trans hx3
 have HBq := Lib.hid (HBr.out.ext hxq)
 have hcr := fun o => HBq.out.cell o
 have hfr := fun o => HBq.out.frozen o
 have hsr := fun u => setCell_put HBq.out 4 u
 have hcp := fun cs o => (HBq.out.put cs).cell o
 have hfp := fun cs o => (HBq.out.put cs).frozen o
 have hsp := fun cs u => setCell_put (HBq.out.put cs) 5 u
 have hpp := fun cs cs' => putB_putB wj g0 60 60 cs cs'
 clear hxq hx1 hx2 hx3
 go_upto_region 28 with fail
 obtain ⟨w8, hwo⟩ : ∃ w8, w8 = putB wj g0 60 #[.int .i64 e.id, .int .i64 e.inn, .int .i64 e.out, .string e.region, .int .u8 e.kind, .string e.speaker, .slice none 0 0] := ⟨_, rfl⟩
 rw [← hwo]
 have HXw8 : Hid (Ext W0 w8) := by show Ext _ _; rw [hwo]; exact HXwj.out.put HG0.out _ _
 clear HBr
 have HBr : Hid (Blk w8 g0 60 #[.int .i64 e.id, .int .i64 e.inn, .int .i64 e.out, .string e.region, .int .u8 e.kind, .string e.speaker, .slice none 0 0]) := by show Blk _ _ _ _; rw [hwo]; exact HBq.out.put _
 clear hwo HBq hcr hfr hsr hcp hfp hsp hpp
 have HBd8 := Lib.hid (HB0.out.ext HXw8.out)
 have HD8 := Lib.hid (HD0.out.ext HXw8.out)
 have HOr := Lib.hid HD8.out.evs
 have hLz := HD8.out.hi
 have hLl := HD8.out.lo
 have hL8 := HXw8.out.size
 refine wp_region_linksR [some 164, some 165, some 166, some 167, some 168, some 169, some 170, some 171, some 172, some 173, none] [[], [], [1], [2], [3], [], [5], [4, 6], [0, 0, 1, 2, 3, 4, 5, 6, 7], [8, 0, 1, 2, 3, 4, 5, 6, 7], [9, 7, 7, 0, 1, 2, 3, 4, 5, 6, 7]] [6, 7, 10] [.pointer (some ⟨b, 0, none⟩), .pointer (some ⟨b, 0, none⟩), .pointer (some ⟨b, 0, none⟩), .pointer (some ⟨b, 6, none⟩), .slice Ae D.evs.length ce, .agg #[.int .i64 e.id, .int .i64 e.inn, .int .i64 e.out, .string e.region, .int .u8 e.kind, .string e.speaker, .slice none 0 0], undef, undef, .pointer (some ⟨b, 0, none⟩), .pointer (some ⟨b, 6, none⟩), undef] (ApJ 60 7 #[.int .i64 e.id, .int .i64 e.inn, .int .i64 e.out, .string e.region, .int .u8 e.kind, .string e.speaker, .slice none 0 0] L (.slice Ae D.evs.length ce) D.evs.length (hs.flatMap EH.vals) (⟨b, 6, none⟩) w8) (by kernel_rfl) (by kernel_rfl) (by kernel_rfl) (by kernel_rfl) (by kernel_rfl) (by kernel_rfl) (by kernel_rfl) (by decide) ?_ ?_ ?_ ?_
 · exact ApJ.start _
 · intro i o ho hc a w' us K' hJ hF hlim hk
   match i, ho with
   | 0, ho =>
    simp only [List.getElem?_toArray, List.getElem?_cons_zero, List.getElem?_cons_succ, Option.some.injEq] at ho
    subst ho
    have e0 := hF.old 0 (.pointer (some ⟨b, 0, none⟩)) rfl rfl
    simp only [Act.eval] at e0
    clear hF hlim hJ
    go_simp
    exact hk
   | 1, ho =>
    simp only [List.getElem?_toArray, List.getElem?_cons_zero, List.getElem?_cons_succ, Option.some.injEq] at ho
    subst ho
    have e0 := hF.old 0 (.pointer (some ⟨b, 0, none⟩)) rfl rfl
    simp only [Act.eval] at e0
    clear hF hlim hJ
    go_simp
    exact hk
   | 2, ho =>
    simp only [List.getElem?_toArray, List.getElem?_cons_zero, List.getElem?_cons_succ, Option.some.injEq] at ho
    subst ho
    have e165 := hF.pure 1 165 (.pointer (some ⟨b, 0, none⟩)) rfl rfl rfl rfl
    simp only [Act.eval] at e165
    clear hF hlim hJ
    go_simp
    exact hk
   | 3, ho =>
    simp only [List.getElem?_toArray, List.getElem?_cons_zero, List.getElem?_cons_succ, Option.some.injEq] at ho
    subst ho
    have e166 := hF.pure 2 166 (.pointer (some ⟨b, 0, none⟩)) rfl rfl rfl rfl
    simp only [Act.eval] at e166
    clear hF hlim hJ
    go_simp
    exact hk
   | 4, ho =>
    simp only [List.getElem?_toArray, List.getElem?_cons_zero, List.getElem?_cons_succ, Option.some.injEq] at ho
    subst ho
    have e167 := hF.pure 3 167 (.pointer (some ⟨b, 6, none⟩)) rfl rfl rfl rfl
    have hcl := (blk_kb HBd8.out (hJ.kb (hlim 2 10 rfl (by kernel_rfl)) 27 (by decide))).cell 6
    simp only [List.getElem?_toArray, List.getElem?_cons_zero, List.getElem?_cons_succ] at hcl
    simp only [Act.eval] at e167
    clear hF hlim hJ
    go_simp
    exact hk
   | 5, ho =>
    simp only [List.getElem?_toArray, List.getElem?_cons_zero, List.getElem?_cons_succ, Option.some.injEq] at ho
    subst ho
    have e10 := hF.old 10 (.pointer (some ⟨g0, 0, none⟩)) rfl rfl
    obtain rfl : us = [] := List.eq_nil_of_length_eq_zero (by have := hlim 0 6 rfl (by kernel_rfl); omega)
    exact wp_loadB 60 (.tmp 10) rfl _ 60 _ _ e10 (HBr.out.ext hJ.st) Tryz.underlying60 rfl (by exact size_evX) hk
   | 6, ho => simp at hc
   | 7, ho => simp at hc
   | 8, ho =>
    simp only [List.getElem?_toArray, List.getElem?_cons_zero, List.getElem?_cons_succ, Option.some.injEq] at ho
    subst ho
    have e164 := hF.pure 0 164 (.pointer (some ⟨b, 0, none⟩)) rfl rfl rfl rfl
    simp only [Act.eval] at e164
    clear hF hlim hJ
    go_simp
    exact hk
   | 9, ho =>
    simp only [List.getElem?_toArray, List.getElem?_cons_zero, List.getElem?_cons_succ, Option.some.injEq] at ho
    subst ho
    have e172 := hF.pure 8 172 (.pointer (some ⟨b, 0, none⟩)) rfl rfl rfl rfl
    simp only [Act.eval] at e172
    clear hF hlim hJ
    go_simp
    exact hk
   | 10, ho => simp at hc
   | i + 11, ho => simp at ho
 · intro p c' o hp ho a w' us K' hl hJ hF hk
   match p, hp with
   | 0, hp =>
    obtain rfl : 6 = c' := by simpa using hp
    simp only [List.getElem?_toArray, List.getElem?_cons_zero, List.getElem?_cons_succ, Option.some.injEq] at ho
    subst ho
    obtain rfl : us = [] := List.eq_nil_of_length_eq_zero hl
    have e169 := hF.pure 5 169 (.agg #[.int .i64 e.id, .int .i64 e.inn, .int .i64 e.out, .string e.region, .int .u8 e.kind, .string e.speaker, .slice none 0 0]) rfl rfl rfl rfl
    have HK := Lib.hid (hk (.slice (some ⟨w'.heap.size, 0, none⟩) 1 1) (w'.alloc (.cells #[.int .i64 e.id, .int .i64 e.inn, .int .i64 e.out, .string e.region, .int .u8 e.kind, .string e.speaker, .slice none 0 0] 60)) hJ.build)
    simp [Act.eval] at e169
    clear hk hF hJ
    go_simp
    exact HK.out
   | 1, hp =>
    obtain rfl : 7 = c' := by simpa using hp
    simp only [List.getElem?_toArray, List.getElem?_cons_zero, List.getElem?_cons_succ, Option.some.injEq] at ho
    subst ho
    obtain ⟨u0, rfl⟩ := list_1 hl
    obtain ⟨⟨gu, rfl, hBu⟩, hxu⟩ := hJ.st
    have e168 := hF.pure 4 168 (.slice Ae D.evs.length ce) rfl rfl rfl rfl
    have e170 := hF.link 0 6 170 _ rfl rfl rfl rfl
    exact wp_append1x (.tmp 168) (.tmp 170) 24 rfl info_evtI Tryz.underlying24 rfl (by decide) (own_ext HOr.out hxu) e168 gu _ e170 hBu rfl (by simp [Value.oneCell']) (by omega) (by simp [maxLen]; omega) (by have := hxu.size; omega) (fun v' wz hoz hgz hlz => hk v' wz (hJ.app (own_typed (own_ext HOr.out hxu)) hgz hoz))
   | 2, hp =>
    obtain rfl : 10 = c' := by simpa using hp
    simp only [List.getElem?_toArray, List.getElem?_cons_zero, List.getElem?_cons_succ, Option.some.injEq] at ho
    subst ho
    obtain ⟨u0, u1, rfl⟩ := list_2 hl
    obtain ⟨wq, hxq, hgq, hoq⟩ := hJ.st
    obtain ⟨gv, cv, rfl, -, -⟩ := own_form hoq (by omega)
    have e173 := hF.pure 9 173 (.pointer (some ⟨b, 6, none⟩)) rfl rfl rfl rfl
    have e171 := hF.link 1 7 171 _ rfl rfl rfl rfl
    have hbk := blk_kb HBd8.out (hJ.kb (by simp) 27 (by decide))
    have hcl := hbk.cell 6
    simp only [List.getElem?_toArray, List.getElem?_cons_zero, List.getElem?_cons_succ] at hcl
    have hfz := hbk.frozen 6
    have HK := Lib.hid (hk undef _ (hJ.store (u2 := undef)))
    simp [Act.eval] at e173 e171
    clear hk hF hJ
    go_simp
    exact HK.out
   | p + 3, hp => simp at hp
 intro us w9 hl hJ
 obtain ⟨u0, u1, u2, rfl⟩ := list_3 hl
 generalize hL : frameL _ _ _ _ = L
 obtain rfl : L = [(164, .pointer (some ⟨b, 0, none⟩)), (165, .pointer (some ⟨b, 0, none⟩)), (166, .pointer (some ⟨b, 0, none⟩)), (167, .pointer (some ⟨b, 6, none⟩)), (168, .slice Ae D.evs.length ce), (169, .agg #[.int .i64 e.id, .int .i64 e.inn, .int .i64 e.out, .string e.region, .int .u8 e.kind, .string e.speaker, .slice none 0 0]), (170, u0), (171, u1), (172, .pointer (some ⟨b, 0, none⟩)), (173, .pointer (some ⟨b, 6, none⟩))] := hL.symm.trans (by kernel_rfl)
 clear hL hl
 simp only [Act.put, List.foldl_cons, List.foldl_nil, List.setIfInBounds_toArray, List.set_cons_zero, List.set_cons_succ]
 obtain ⟨w5, wv, hx5, hg6, ho6a, hw9a⟩ := hJ.st
 have hor5 := own_ext HOr.out hx5
 have hty5 := own_typed hor5
 obtain ⟨u1, hw9, ho6⟩ : ∃ u, w9 = wv.setCell ⟨b, 6, none⟩ u ∧ wv.ownsRow L 60 7 u (_ + 1) _ := ⟨_, hw9a, ho6a⟩
 clear hw9a ho6a
 have hbv := blk_kb (HBd8.out.ext hx5) (KB.grown hg6 hty5 (show 27 ≠ 60 by decide))
 rw [setCell_put hbv] at hw9
 have hD6 := (HD8.out.ext hx5).ev (e := e) (by omega) hg6 ho6
 have hk9 : ∀ T : TypeId, T ≠ 27 → KB T wv w9 := fun T hn => by rw [hw9]; exact KB.put hbv hn
 have hD9 := hD6.kb (hk9 _ (by decide)) (hk9 _ (by decide)) (hk9 _ (by decide)) (hk9 _ (by decide)) (by rw [hw9, putB_size]; exact Nat.le_refl _)
 have HBf : Hid (Blk w9 b 27 (docC { D with evs := D.evs ++ [{ e with rows := [] }] } (.slice Ar D.regs.length cr) u1)) := by show Blk _ _ _ _; rw [hw9]; exact hbv.put _
 have HVf := Lib.hid (blk_kb (blk_kb (HV0.out.ext (HXw8.out.trans hx5)) (KB.grown hg6 hty5 (show 146 ≠ 60 by decide))) (hk9 _ (by decide)))
 have HKf : Hid (KpD w w9) := (KpD.ext (HX0.out.trans (HXw8.out.trans hx5))).trans fun T h1 h2 h3 h4 h5 => (KB.grown hg6 hty5 h3).trans (hk9 T h1)
 have HWf : Hid (Below L w w9) := by
  show Below L w w9
  have hxx := HX0.out.trans (HXw8.out.trans hx5)
  rw [hw9]
  exact below_putX (((Below.mono hxx (by omega)).grown hg6 (by have := hxx.size; omega) (fun q hq => own_lt hor5 q hq))) hLb _ _
 have HDf := Lib.hid hD9
 have hcv := fun o => HVf.out.cell o
 clear hJ hx5 hg6 ho6 hw9 hor5 hty5 hbv hD6 hk9 hD9
 try simp only [Exit.inBlock, Exit.then]
 go_wp2_with fail
 all_goals
  go_ret
  exact ⟨rfl, ⟨_, _, _, _, HBf.out, HDf.out, hLb⟩, HWf.out, HKf.out⟩
end
section
open Go.RowKit
def CaW (w : World) : Prop := Blk w 1 84 colCx ∧ Blk w 0 73 alnCx
theorem CaW.ext {w w1 : World} (h : CaW w) (k : Ext w w1) : CaW w1 := ⟨h.1.ext k, h.2.ext k⟩
structure StepB (L b k : Nat) (D : Doc) (o : List ByteArray) (x : Nd) (rest : List Nd) (D' : Doc) (p : ByteArray) (D1 : Doc) : Prop where
 deep : x.depth ≤ o.length
 deep4 : x.depth ≤ 4
 par : 0 < x.depth → (o.take x.depth)[x.depth - 1]? = some p
 par0 : x.depth = 0 → p = ⟨#[]⟩
 fits : ∀ fb : Bool, fb = decide (D.evs.length = 0) → Fits x.name p fb
 el : elB x.name = true
 names : ∀ a ∈ x.attrs, memB a.1 (alwN x.name) = true ∨ memB a.1 (mayN x.name) = true
 cnt : alwC x.name x.attrs = (alwN x.name).length
 few : x.attrs.length ≤ 16
 add : ∀ (A : Option Addr) (m c : Nat) (w : World), DocBk w L b D k → AttrsK w A m x.attrs → m ≤ 16 → CaW w → Calls Tryz.prog 34 #[.pointer (some ⟨b, 0, none⟩), .agg #[.string x.name, .string x.text, .slice A m c, .int .i64 (x.depth : Int)]] w (AddPost L b D1 (k + 1) w)
 next : Adds D1 (o.take x.depth ++ [x.name]) rest D'
theorem take_len {o : List ByteArray} {k : Nat} {l : List ByteArray} (h : o.take k = l) (hl : l.length = k) : k ≤ o.length := by
 have := congrArg List.length h
 rw [List.length_take, hl] at this
 omega
theorem attrsF_few {al : List (ByteArray × ByteArray)} (h : al.length ≤ 16) : (attrsF al).length ≤ 16 := Nat.le_trans (List.length_filter_le ..) h
theorem Adds.step {D D' : Doc} {o : List ByteArray} {x : Nd} {rest : List Nd} (h : Adds D o (x :: rest) D') (L b k : Nat) (hk : k ≤ 8192) : ∃ p D1, StepB L b k D o x rest D' p D1 := by
 cases h with
 | tt d hok hn =>
  exact ⟨⟨#[]⟩, _, ⟨Nat.zero_le _, by show 0 ≤ 4; decide, fun h => absurd h (by show ¬ 0 < 0; decide), fun _ => rfl, fun fb _ => Fits.tt fb, by show elB sTt = true; decide, tt_names d, tt_count hok, attrsF_few (by show 5 ≤ 16; decide), fun A m c w hD ha hm _ => add_tt L b k d _ A m c _ w hD hok ha hm, by
   show Adds _ (o.take 0 ++ [sTt]) rest D'
   rw [List.take_zero]
   exact hn⟩⟩
 | reg r hok ho he hn =>
  exact ⟨sTt, _, ⟨take_len ho rfl, by show 1 ≤ 4; decide, fun _ => by show (o.take 1)[0]? = _; rw [ho]; rfl, fun h => absurd h (by show ¬ 1 = 0; decide), fun fb hf => by
   have : fb = true := by rw [hf, he]; rfl
   rw [this]; exact Fits.reg, by show elB sRegion = true; decide, reg_names r, reg_count hok, attrsF_few (by show 7 ≤ 16; decide), fun A m c w hD ha hm ht => add_reg L b k D r _ A m c _ w hD hok ha hm hk ht.2, by
   show Adds _ (o.take 1 ++ [sRegion]) rest D'
   rw [ho]
   exact hn⟩⟩
 | ev e hok ho hn =>
  exact ⟨sTt, _, ⟨take_len ho rfl, by show 1 ≤ 4; decide, fun _ => by show (o.take 1)[0]? = _; rw [ho]; rfl, fun h => absurd h (by show ¬ 1 = 0; decide), fun fb _ => Fits.ev fb, by show elB sP = true; decide, ev_names e, ev_count hok, attrsF_few (by show 6 ≤ 16; decide), fun A m c w hD ha hm _ => add_ev L b k D e _ A m c _ w hD hok ha hm hk, by
   show Adds _ (o.take 1 ++ [sP]) rest D'
   rw [ho]
   exact hn⟩⟩
 | row es e ho he hn =>
  exact ⟨sP, _, ⟨take_len ho rfl, by show 2 ≤ 4; decide, fun _ => by show (o.take 2)[1]? = _; rw [ho]; rfl, fun h => absurd h (by show ¬ 2 = 0; decide), fun fb _ => Fits.row fb, by show elB sRow = true; decide, fun a ha => by simp [rowN, elN, attrsF] at ha, by show alwC sRow (attrsF []) = (alwN sRow).length; decide, by show 0 ≤ 16; decide, fun A m c w hD _ _ _ => add_row L b k D es e _ A m c _ w hD he hk, by
   show Adds _ (o.take 2 ++ [sRow]) rest D'
   rw [ho]
   exact hn⟩⟩
 | run es e rs r y hok ho he hr hn =>
  exact ⟨sRow, _, ⟨take_len ho rfl, by show 3 ≤ 4; decide, fun _ => by show (o.take 3)[2]? = _; rw [ho]; rfl, fun h => absurd h (by show ¬ 3 = 0; decide), fun fb _ => Fits.run fb, by show elB sRun = true; decide, run_names y, run_count y, attrsF_few (by show 4 ≤ 16; decide), fun A m c w hD ha hm ht => add_run L b k D es e rs r y _ A m c _ w hD he hr hk hok ha hm ht.1, by
   show Adds _ (o.take 3 ++ [sRun]) rest D'
   rw [ho]
   exact hn⟩⟩
 | txt es e rs r y hok ho he hr hn =>
  exact ⟨sRun, _, ⟨take_len ho rfl, by show 4 ≤ 4; decide, fun _ => by show (o.take 4)[3]? = _; rw [ho]; rfl, fun h => absurd h (by show ¬ 4 = 0; decide), fun fb _ => Fits.txt fb, by show elB ByteArray.empty = true; decide, fun a ha => by simp [txtN] at ha, by show alwC ByteArray.empty [] = (alwN ByteArray.empty).length; decide, by show 0 ≤ 16; decide, fun A m c w hD _ _ _ => add_txt L b k D es e rs r { y with text := ByteArray.empty } y.text A m c _ w hD he hr hk, by
   show Adds _ (o.take 4 ++ [ByteArray.empty]) rest D'
   rw [ho]
   exact hn⟩⟩
end
section
open Go.RowKit
theorem DocBk.kb {w w1 : World} {L b K : Nat} {D : Doc} (h : DocBk w L b D K) (kd : KB 27 w w1) (k0 : KB 53 w w1) (k1 : KB 60 w w1) (k2 : KB 78 w w1) (k3 : KB 83 w w1) (hz : w.heap.size ≤ w1.heap.size) : DocBk w1 L b D K := by
 obtain ⟨vr, ve, hs, Lr, h1, h2, h3⟩ := h
 exact ⟨vr, ve, hs, Lr, kd b _ h1, h2.kb k0 k1 k2 k3 hz, h3⟩
theorem DocBk.ext {w w1 : World} {L b K : Nat} {D : Doc} (h : DocBk w L b D K) (k : Ext w w1) : DocBk w1 L b D K := h.kb (KB.ext k) (KB.ext k) (KB.ext k) (KB.ext k) (KB.ext k) k.size
theorem NodesOwn.node {w : World} {L n c : Nat} {A : Option Addr} {l : List Nd} (h : NodesOwn w L (.slice A n c) l) {k : Nat} {x : Nd} (hx : l[k]? = some x) : ∃ g A' c', A = some ⟨g, 0, none⟩ ∧ w.cell? ⟨g, k * 4, none⟩ = some (.string x.name) ∧ w.cell? ⟨g, k * 4 + 1, none⟩ = some (.string x.text) ∧
 w.cell? ⟨g, k * 4 + 2, none⟩ = some (.slice A' x.attrs.length c') ∧ w.cell? ⟨g, k * 4 + 3, none⟩ = some (.int .i64 (x.depth : Int)) ∧ AttrsK w A' x.attrs.length x.attrs := by
 obtain ⟨hs, h1, h2, h3⟩ := h
 obtain ⟨A2, c2, hv, -, -, hS, -⟩ := own_sl (f := NdH.vals) (size := 4) NdH.len h2 h1
 injection hv with e1 e2 e3
 subst e1 e2 e3
 have hk := (List.getElem?_eq_some_iff.1 hx).1
 obtain ⟨b, off, rfl, hkk⟩ := hS.2 (by omega)
 have hb0 : off = 0 := by
  obtain ⟨g, cap, hv, -, -⟩ := own_form h1 (by omega)
  injection hv with q
  injection q with q
  injection q with _ q _
 subst hb0
 have hh := List.getElem?_eq_getElem (show k < hs.length by omega)
 obtain ⟨g1, g2, g3, g4⟩ := h3 k _ x hh hx
 have hC := hkk k _ hh
 obtain ⟨A', c', hv2, -, -, -, -⟩ := own_sl (f := attrVs) (size := 2) (fun _ => rfl) rfl g4
 refine ⟨b, A', c', rfl, ?_, ?_, ?_, ?_, ?_⟩
 · have := hC 0 _ rfl
   rw [← g1]; simpa using this
 · have := hC 1 _ rfl
   rw [← g2]; simpa using this
 · have := hC 2 _ rfl
   rw [← hv2]; simpa using this
 · have := hC 3 _ rfl
   rw [← g3]; simpa using this
 · rw [hv2] at g4
   exact AttrsK.of_own g4
theorem own_prefixB {w : World} {L : Nat} {e : TypeId} {size : Nat} {A : Option Addr} {n c k : Nat} {xs : List Value} (h : w.ownsRow L e size (.slice A n c) n xs) (hk : k ≤ n) : w.ownsRow L e size (.slice A k c) k (xs.take (k * size)) := by
 obtain ⟨hl, h2⟩ := h
 have hks : k * size ≤ n * size := Nat.mul_le_mul_right _ hk
 refine ⟨by rw [List.length_take]; omega, ?_⟩
 rcases h2 with ⟨hv, hn⟩ | ⟨g, cap, cur, hv, hg, hb, hnc, hcm, hcs, ht⟩
 · cases hv
   obtain rfl : k = 0 := by omega
   exact .inl ⟨rfl, rfl⟩
 · cases hv
   refine .inr ⟨g, _, cur, rfl, hg, hb, by omega, hcm, hcs, ?_⟩
   rw [← ht, List.take_take, Nat.min_eq_left hks]
theorem flatMap_takeB {α : Type} {f : α → List Value} {s : Nat} (hf : ∀ x, (f x).length = s) (l : List α) : ∀ (k : Nat), (l.flatMap f).take (k * s) = (l.take k).flatMap f := by
 induction l with
 | nil => intro k; simp
 | cons z l ih =>
  intro k
  cases k with
  | zero => simp
  | succ k =>
   simp only [List.flatMap_cons, List.take_succ_cons]
   have e : (k + 1) * s = (f z).length + k * s := by rw [hf, Nat.succ_mul]; omega
   rw [e, List.take_length_add_append, ih]
theorem DocBd.at2 {w : World} {L Lr K rn rc en ec : Nat} {D : Doc} {ra ea : Option Addr} {hs : List EH} (h : DocBd w L D (.slice ra rn rc) (.slice ea en ec) hs Lr K) (hK : K ≤ 100000) : rn = D.regs.length ∧ en = D.evs.length ∧ DocAt w D ⟨ra, rn, rc, ea, en, ec, none, 0, 0⟩ := by
 obtain ⟨⟨a1, a2, a3, a4, a5, a6, a7, a8, a9⟩, h1, h2, h3, h4, h5, h6, h7, hat⟩ := h.at_ hK
 cases h1
 cases h2
 dsimp only at h3 h4 h5 h6 h7
 subst h3 h4 h5
 exact ⟨h6, h7, hat⟩
theorem size_docX : (Tryz.prog.info? 27).map (·.size) = some 8 := by kernel_rfl
theorem cast0 : ((0 : Nat) : Int) = 0 := rfl
theorem cast1 (q : Nat) : ((q + 1 : Nat) : Int) = (q : Int) + 1 := rfl
def docZ : Array Value := #[.string ⟨#[]⟩, .string ⟨#[]⟩, .int .u8 0, .bool false, .int .i64 0, .slice none 0 0, .slice none 0 0, .slice none 0 0]
def BdRel (w1 W : World) (L : Nat) (D' : Doc) (l : List Nd) (n : Nat) (vo v : Value) (wr : World) : Prop :=
 ∃ (k : Nat) (D : Doc) (o : List ByteArray), k ≤ n ∧ v = .int .i64 k ∧ Adds D o (l.drop k) D' ∧ DocBk wr L L D k ∧ wr.ownsRow L 9 1 vo o.length (o.flatMap strVs) ∧ Ext w1 wr ∧ L < wr.heap.size ∧ o.length ≤ 5
def DocKp (w : World) (D : Doc) (h : DocH) : Prop := ∀ w1, KB 53 w w1 → KB 60 w w1 → KB 78 w w1 → KB 83 w w1 → w.heap.size ≤ w1.heap.size → DocAt w1 D h
theorem DocKp.at_ {w : World} {D : Doc} {h : DocH} (k : DocKp w D h) : DocAt w D h := k w (KB.refl w) (KB.refl w) (KB.refl w) (KB.refl w) (Nat.le_refl _)
theorem DocKp.go {w w1 : World} {D : Doc} {h : DocH} (k : DocKp w D h) (k0 : KB 53 w w1) (k1 : KB 60 w w1) (k2 : KB 78 w w1) (k3 : KB 83 w w1) (hz : w.heap.size ≤ w1.heap.size) : DocKp w1 D h :=
 fun w2 j0 j1 j2 j3 jz => k w2 (k0.trans j0) (k1.trans j1) (k2.trans j2) (k3.trans j3) (Nat.le_trans hz jz)
set_option maxHeartbeats 8000000 in
set_option maxRecDepth 100000 in
theorem Build_ok (A : Option Addr) (n c L0 : Nat) (l : List Nd) (D' : Doc) (w : World) (hN : NodesOwn w L0 (.slice A n c) l) (hg : GoodL l) (hsm : ∀ x ∈ l, NdSm x) (hE : Env w) (hC : CaW w) (hA : Adds Doc.zero [] l D') (hz : D'.err = 0) (hf : DocFit D') (hb1 : D'.evs.length ≤ 1000000) (hb2 : D'.regs.length ≤ 1000000) :
 Calls Tryz.prog 11 #[.slice A n c] w fun e w' => ∃ h : DocH, e = .returned (.tuple #[.agg (D'.cells h), .int .i64 0, .int .i64 0]) ∧ DocKp w' D' h ∧ Ext w w' ∧ h.rn = D'.regs.length ∧ h.en = D'.evs.length ∧ h.cn = 0 := by
 have hnl : n = l.length := by
  obtain ⟨An, cn, hv, -, -⟩ := hN.at'
  injection hv
 have hn8 : n ≤ 8192 := by rw [hnl]; exact hg.few
 have HCk : Hid (∀ w', Ext w w' → Calls Tryz.prog 24 #[.slice A n c] w' fun e w2 => e = .returned (.int .i64 0) ∧ Ext w' w2) := fun w' hx => by
  obtain ⟨An, cn, hv, -, hat⟩ := hN.at'
  injection hv with e1 e2 e3
  subst e1
  rw [hnl]
  exact XCheck_ok _ _ c l w' (hat.ext hx) hg hsm (hE.ext hx)
 have HN := Lib.hid hN
 have HEn := Lib.hid hE
 have HCa := Lib.hid hC
 have HA := Lib.hid hA
 have HNl := Lib.hid hnl
 have HZ := Lib.hid hz
 have HF := Lib.hid hf
 have HX0 := Lib.hid ((Ext.refl w).alloc (.cells docZ 27))
 have HB0 := Lib.hid (Blk.new w 27 docZ)
 unfold docZ at HX0 HB0
 clear hN hE hC hA hz hf hsm hg hnl
 go_enter Tryz.func11, Tryz.ntmps11
 go_wp2_with fail
 refine (HCk.out _ HX0.out).mono ?_
 rintro e w1 ⟨rfl, hx1⟩
 have HX1 := Lib.hid (HX0.out.trans hx1)
 have HB1 := Lib.hid (HB0.out.ext hx1)
 have hz1 := hx1.size
 clear hx1
 have HBs := Lib.hid (Blk.new w1 27 docZ)
 unfold docZ at HBs
 go_wp2_with fail
 go_loopw [7, 21] (fun vo v wr => BdRel w1 w w1.heap.size D' l n vo v wr) (fun _ v _ => n - (intOf v).toNat)
 case atStart => exact ⟨0, Doc.zero, [], Nat.zero_le _, rfl, HA.out, ⟨_, _, [], _, HBs.out, DocBd.zero _ (by simp), Nat.le_refl _⟩, ⟨rfl, .inl ⟨rfl, rfl⟩⟩, (Ext.refl w1).alloc _, by simp, by decide⟩
 case round =>
  obtain ⟨k, D, o, hk, rfl, had, hbk, how, hx, hzr, ho5⟩ := hrel
  obtain ⟨Ao, co, rfl, hoc, -⟩ := own_len how
  have HX := Lib.hid hx
  have HK := Lib.hid hbk
  have HO := Lib.hid how
  by_cases hlt : k < n
  · obtain ⟨x, hxk⟩ : ∃ x, l[k]? = some x := ⟨_, List.getElem?_eq_getElem (by have := HNl.out; omega)⟩
    have hdl : l.drop k = x :: l.drop (k + 1) := drop_at l k x hxk
    rw [hdl] at had
    obtain ⟨p, D1, hst⟩ := had.step w1.heap.size w1.heap.size k (by omega)
    have HS := Lib.hid hst
    obtain ⟨g, A', c', hA', q0, q1, q2, q3, hat⟩ := (HN.out.ext (HX1.out.trans HX.out)).node hxk
    subst hA'
    have HAt := Lib.hid hat
    have hdeep := hst.deep
    have hdeep4 := hst.deep4
    clear had hbk how hx hdl hst hat hxk
    obtain ⟨nm, tx, al, dp⟩ := x
    dsimp only at *
    have HBn := Lib.hid (Blk.new wr 87 #[.string nm, .string tx, .slice A' al.length c', .int .i64 (dp : Int)])
    have HXn := Lib.hid ((Ext.refl wr).alloc (.cells #[.string nm, .string tx, .slice A' al.length c', .int .i64 (dp : Int)] 87))
    have hcn := fun o => HBn.out.cell o
    obtain ⟨vr, ve, hs, Lr, hBd, hDd, -⟩ := HK.out
    obtain ⟨Ae, ce, rfl, -, -⟩ := own_len hDd.evs
    have hcd := fun o => (hBd.ext HXn.out).cell o
    unfold docC at hcd
    clear hBd hDd
    have HFi : Hid (∀ fb, ((D.evs.length : Int) == 0) = fb → Fits nm p fb) := fun fb hfb => HS.out.fits fb (by
     rw [← hfb]
     by_cases h0 : D.evs.length = 0
     · rw [h0]; rfl
     · rw [decide_eq_false h0]; exact beq_eq_false_iff_ne.2 (by omega))
    obtain ⟨W3, hW3⟩ : ∃ W3, W3 = wr.alloc (.cells #[.string nm, .string tx, .slice A' al.length c', .int .i64 (dp : Int)] 87) := ⟨_, rfl⟩
    rw [← hW3] at HBn HXn hcn hcd
    by_cases hd0 : dp = 0
    · subst hd0
      obtain rfl := HS.out.par0 rfl
      have HOp : Hid (wr.ownsRow w1.heap.size 9 1 (.slice Ao 0 co) 0 ((o.flatMap strVs).take (0 * 1))) := own_prefixB HO.out (Nat.zero_le _)
      have hadd := fun w' => HS.out.add A' al.length c' w'
      dsimp only at hadd
      rw [cast0] at hW3 HBn hcn hadd
      have HAd := Lib.hid hadd
      clear hadd
      rw [hW3] at hcn hcd
      go_wp2_with fail
      rw [← hW3]
      refine (fits_ok nm tx ⟨#[]⟩ A' al.length c' _ _ W3 (HFi.out _ rfl)).mono ?_
      rintro e4 w4 ⟨rfl, hx4⟩
      have HX4 := Lib.hid hx4
      have HBn4 := Lib.hid (HBn.out.ext hx4)
      clear hx4 hcn hcd
      have hcn := fun o => HBn4.out.cell o
      go_wp2_with fail
      refine (attributed_ok nm tx A' al.length c' _ al w4 HS.out.el ((HAt.out.kb (KB.ext (HXn.out.trans HX4.out))).at_) HS.out.few HS.out.names HS.out.cnt).mono ?_
      rintro e5 w5 ⟨rfl, hx5⟩
      have HX5 := Lib.hid (HXn.out.trans (HX4.out.trans hx5))
      have HBn5 := Lib.hid (HBn4.out.ext hx5)
      clear hx5 hcn HBn4
      have hcn := fun o => HBn5.out.cell o
      go_wp2_with fail
      refine (HAd.out w5 (HK.out.ext HX5.out) (HAt.out.kb (KB.ext HX5.out)) HS.out.few (HCa.out.ext (HX1.out.trans (HX.out.trans HX5.out)))).mono ?_
      rintro e6 w6 ⟨rfl, hbk6, hbl6, hkp6⟩
      have HX6 := Lib.hid ((HX.out.trans HX5.out).below hbl6 (Nat.le_refl _))
      have HK6 := Lib.hid hbk6
      have HO6 := Lib.hid (own_kbX (own_ext HOp.out HX5.out) (hkp6 _ (by decide) (by decide) (by decide) (by decide) (by decide)))
      have HBn6 := Lib.hid (blk_kb HBn5.out (hkp6 _ (by decide) (by decide) (by decide) (by decide) (by decide)))
      have hz6 : w1.heap.size < w6.heap.size := by have := hbl6.size; have := HX5.out.size; omega
      clear hbk6 hbl6 hkp6 hcn
      have hcn := fun o => HBn6.out.cell o
      go_wp2_with (at_builtin; refine wpList_append1 rfl (.tmp 61) (.tmp 64) 93 rfl info_strX Tryz.underlying93 rfl (by decide) (own_ext HO6.out ((Ext.refl _).alloc _)) (by exact rfl) w6.heap.size #[.string nm] (by exact rfl) (by exact Blk.new _ _ _) (by exact rfl) (by simp [Value.oneCell']) (by omega) (by unfold maxLen; omega) (by simp only [World.size_alloc]; omega) ?_; intro v' w8 hown hgr; have HX8 := Lib.hid ((HX6.out.alloc _).grown hgr (fun q hq => own_lt HO6.out q hq)); have HO8 := Lib.hid hown; have HG8 := Lib.hid hgr; have hz8 := hgr.size; clear hown hgr)
      have hty := own_typed (own_ext HO6.out ((Ext.refl w6).alloc (.cells #[.string nm] 9)))
      have hK8 := (HK6.out.ext ((Ext.refl w6).alloc (.cells #[.string nm] 9))).kb (KB.grown HG8.out hty (by decide)) (KB.grown HG8.out hty (by decide)) (KB.grown HG8.out hty (by decide)) (KB.grown HG8.out hty (by decide)) (KB.grown HG8.out hty (by decide)) HG8.out.size
      have hO8 : w8.ownsRow w1.heap.size 9 1 v' (o.take (0) ++ [nm]).length ((o.take (0) ++ [nm]).flatMap strVs) := by
       rw [List.length_append, List.length_take, Nat.min_eq_left hdeep, List.flatMap_append, ← flatMap_takeB (f := strVs) (s := 1) (fun _ => rfl)]
       exact HO8.out
      exact ⟨⟨k + 1, D1, o.take (0) ++ [nm], by omega, by go_num, HS.out.next, hK8, hO8, HX8.out, by simp only [World.size_alloc] at hz8; omega, by rw [List.length_append, List.length_take, Nat.min_eq_left hdeep]; simp only [List.length_cons, List.length_nil]; omega⟩, by simp only [intOf]; omega⟩
    · obtain ⟨q, rfl⟩ : ∃ q, dp = q + 1 := ⟨dp - 1, by omega⟩
      have HOp : Hid (wr.ownsRow w1.heap.size 9 1 (.slice Ao (q + 1) co) (q + 1) ((o.flatMap strVs).take ((q + 1) * 1))) := own_prefixB HO.out hdeep
      obtain ⟨go, cgo, hgo, hgo1, hgo2⟩ := own_form HOp.out (by omega)
      injection hgo with r1 r2 r3
      subst r1
      clear r2 r3
      have hcp : W3.cell? ⟨go, q, none⟩ = some (.string p) := by
       have hpr := HS.out.par (by show 0 < q + 1; omega)
       obtain ⟨A7, c7, hv7, -, -, hS7, -⟩ := own_sl (f := strVs) (size := 1) (fun _ => rfl) rfl HO.out
       injection hv7 with s1 s2 s3
       subst s1
       obtain ⟨b7, off7, hA7, hk7⟩ := hS7.2 (by omega)
       injection hA7 with hA7
       injection hA7 with t1 t2 t3
       subst t1 t2
       have hoq : o[q]? = some p := by
        have : (o.take (q + 1))[q]? = some p := hpr
        rw [List.getElem?_take_of_lt (by omega)] at this
        exact this
       have := hk7 q p hoq 0 _ rfl
       exact HXn.out.cell (by simpa using this)
      have hadd := fun w' => HS.out.add A' al.length c' w'
      dsimp only at hadd
      rw [cast1] at hW3 HBn hcn hadd
      have HAd := Lib.hid hadd
      clear hadd
      rw [hW3] at hcn hcd hcp
      go_wp2_with fail
      rw [← hW3]
      refine (fits_ok nm tx p A' al.length c' _ _ W3 (HFi.out _ rfl)).mono ?_
      rintro e4 w4 ⟨rfl, hx4⟩
      have HX4 := Lib.hid hx4
      have HBn4 := Lib.hid (HBn.out.ext hx4)
      clear hx4 hcn hcd
      have hcn := fun o => HBn4.out.cell o
      go_wp2_with fail
      refine (attributed_ok nm tx A' al.length c' _ al w4 HS.out.el ((HAt.out.kb (KB.ext (HXn.out.trans HX4.out))).at_) HS.out.few HS.out.names HS.out.cnt).mono ?_
      rintro e5 w5 ⟨rfl, hx5⟩
      have HX5 := Lib.hid (HXn.out.trans (HX4.out.trans hx5))
      have HBn5 := Lib.hid (HBn4.out.ext hx5)
      clear hx5 hcn HBn4
      have hcn := fun o => HBn5.out.cell o
      go_wp2_with fail
      refine (HAd.out w5 (HK.out.ext HX5.out) (HAt.out.kb (KB.ext HX5.out)) HS.out.few (HCa.out.ext (HX1.out.trans (HX.out.trans HX5.out)))).mono ?_
      rintro e6 w6 ⟨rfl, hbk6, hbl6, hkp6⟩
      have HX6 := Lib.hid ((HX.out.trans HX5.out).below hbl6 (Nat.le_refl _))
      have HK6 := Lib.hid hbk6
      have HO6 := Lib.hid (own_kbX (own_ext HOp.out HX5.out) (hkp6 _ (by decide) (by decide) (by decide) (by decide) (by decide)))
      have HBn6 := Lib.hid (blk_kb HBn5.out (hkp6 _ (by decide) (by decide) (by decide) (by decide) (by decide)))
      have hz6 : w1.heap.size < w6.heap.size := by have := hbl6.size; have := HX5.out.size; omega
      clear hbk6 hbl6 hkp6 hcn
      have hcn := fun o => HBn6.out.cell o
      go_wp2_with (at_builtin; refine wpList_append1 rfl (.tmp 61) (.tmp 64) 93 rfl info_strX Tryz.underlying93 rfl (by decide) (own_ext HO6.out ((Ext.refl _).alloc _)) (by exact rfl) w6.heap.size #[.string nm] (by exact rfl) (by exact Blk.new _ _ _) (by exact rfl) (by simp [Value.oneCell']) (by omega) (by unfold maxLen; omega) (by simp only [World.size_alloc]; omega) ?_; intro v' w8 hown hgr; have HX8 := Lib.hid ((HX6.out.alloc _).grown hgr (fun q hq => own_lt HO6.out q hq)); have HO8 := Lib.hid hown; have HG8 := Lib.hid hgr; have hz8 := hgr.size; clear hown hgr)
      have hty := own_typed (own_ext HO6.out ((Ext.refl w6).alloc (.cells #[.string nm] 9)))
      have hK8 := (HK6.out.ext ((Ext.refl w6).alloc (.cells #[.string nm] 9))).kb (KB.grown HG8.out hty (by decide)) (KB.grown HG8.out hty (by decide)) (KB.grown HG8.out hty (by decide)) (KB.grown HG8.out hty (by decide)) (KB.grown HG8.out hty (by decide)) HG8.out.size
      have hO8 : w8.ownsRow w1.heap.size 9 1 v' (o.take (q + 1) ++ [nm]).length ((o.take (q + 1) ++ [nm]).flatMap strVs) := by
       rw [List.length_append, List.length_take, Nat.min_eq_left hdeep, List.flatMap_append, ← flatMap_takeB (f := strVs) (s := 1) (fun _ => rfl)]
       exact HO8.out
      exact ⟨⟨k + 1, D1, o.take (q + 1) ++ [nm], by omega, by go_num, HS.out.next, hK8, hO8, HX8.out, by simp only [World.size_alloc] at hz8; omega, by rw [List.length_append, List.length_take, Nat.min_eq_left hdeep]; simp only [List.length_cons, List.length_nil]; omega⟩, by simp only [intOf]; omega⟩
  · have ek : k = n := by omega
    subst ek
    have hdn : l.drop k = [] := List.drop_eq_nil_of_le (by rw [HNl.out]; exact Nat.le_refl _)
    rw [hdn] at had
    cases had
    obtain ⟨vr, ve, hs, Lr, hBd, hDd, -⟩ := HK.out
    obtain ⟨ra, rc, rfl, -, -⟩ := own_len hDd.regs
    obtain ⟨ea, ec, rfl, -, -⟩ := own_len hDd.evs
    obtain ⟨-, -, hat⟩ := hDd.at2 (by omega)
    have HBd : Hid (Blk wr w1.heap.size 27 (D'.cells ⟨ra, D'.regs.length, rc, ea, D'.evs.length, ec, none, 0, 0⟩)) := hBd
    have HDd := Lib.hid hDd
    have HCk2 : Hid (Calls Tryz.prog 17 #[.agg (D'.cells ⟨ra, D'.regs.length, rc, ea, D'.evs.length, ec, none, 0, 0⟩)] wr fun en w2 => en = .returned (.int .i64 0) ∧ Ext wr w2) := by
     have := DCheck_any D' _ wr (HEn.out.ext (HX1.out.trans HX.out)) hat HF.out (by dsimp only; omega) (by dsimp only; omega) (by dsimp only; omega)
     rwa [HZ.out] at this
    clear hBd hDd hat hbk how hx hdn
    unfold Doc.cells at HBd HCk2
    dsimp only at HBd HCk2
    go_wp2_with (refine wpList_loadB rfl 27 (.tmp 6) rfl w1.heap.size 27 _ _ (by exact rfl) (by exact HBd.out) Tryz.underlying27 rfl (by exact size_docX) ?_)
    refine HCk2.out.mono ?_
    rintro e w9 ⟨rfl, hx9⟩
    have HX9 := Lib.hid (HX.out.trans hx9)
    have HBd9 := Lib.hid (HBd.out.ext hx9)
    have HB9 := Lib.hid (HB1.out.ext HX9.out)
    have HD9 := Lib.hid (HDd.out.ext hx9)
    clear hx9
    go_wp2_with (first | (refine wpList_loadB rfl 27 (.tmp 6) rfl w1.heap.size 27 _ _ (by exact rfl) (by exact HBd9.out) Tryz.underlying27 rfl (by exact size_docX) ?_) | (refine wpList_storeB rfl 27 (.tmp 2) (.tmp 73) rfl w.heap.size 27 _ _ (by exact rfl) (by exact rfl) (by exact HB9.out) (by exact rfl) (by exact size_docX) (by simp [Value.oneCell']) ?_))
    have hD10 := HD9.out.kb (KB.put (cs' := D'.cells ⟨ra, D'.regs.length, rc, ea, D'.evs.length, ec, none, 0, 0⟩) HB9.out (by decide)) (KB.put (cs' := D'.cells ⟨ra, D'.regs.length, rc, ea, D'.evs.length, ec, none, 0, 0⟩) HB9.out (by decide)) (KB.put (cs' := D'.cells ⟨ra, D'.regs.length, rc, ea, D'.evs.length, ec, none, 0, 0⟩) HB9.out (by decide)) (KB.put (cs' := D'.cells ⟨ra, D'.regs.length, rc, ea, D'.evs.length, ec, none, 0, 0⟩) HB9.out (by decide)) (by rw [putB_size]; exact Nat.le_refl _)
    have hat9 : DocKp (putB w9 w.heap.size 27 (D'.cells ⟨ra, D'.regs.length, rc, ea, D'.evs.length, ec, none, 0, 0⟩)) D' ⟨ra, D'.regs.length, rc, ea, D'.evs.length, ec, none, 0, 0⟩ := fun w1 a b cc e f => ((hD10.kb a b cc e f).at2 (by omega)).2.2
    refine bodyPost_ret (v := .tuple #[.agg (D'.cells ⟨ra, D'.regs.length, rc, ea, D'.evs.length, ec, none, 0, 0⟩), .int .i64 0, .int .i64 0]) ?_ rfl ⟨_, rfl, hat9, (HX1.out.trans HX9.out).put (Nat.le_refl _) 27 _, rfl, rfl, rfl⟩
    exact results_Bx2 Tryz.results11 rfl (HB9.out.put _) Tryz.underlying27 rfl size_docX rfl rfl
end
section
open Go.RowKit
theorem NdFew.sm {x : Nd} (h : NdFew x) : NdSm x := ⟨by have := h.text; omega, fun a ha => by have := (h.attrs a ha).2; omega⟩
set_option maxHeartbeats 2000000 in
set_option maxRecDepth 100000 in
theorem Nodes_bad (d : Doc) (h : DocH) (w : World) (hE : Env w) (hat : DocAt w d h) (hf : DocFit d) (hrn : h.rn ≤ 4) (hn : h.en ≤ 4) (hcn : h.cn ≤ 9223372036854775807) (hz : d.err ≠ 0) :
 Calls Tryz.prog 8 #[.agg (d.cells h)] w fun e w' => e = .returned (.tuple #[.slice none 0 0, .int .i64 d.err]) ∧ Ext w w' := by
 have HX0 := Lib.hid ((Ext.refl w).alloc (.cells (d.cells h) 27))
 have HBd := Lib.hid (Blk.new w 27 (d.cells h))
 have HCk : Hid (∀ w', Ext w w' → Calls Tryz.prog 17 #[.agg (d.cells h)] w' fun en w2 => en = .returned (.int .i64 d.err) ∧ Ext w' w2) := fun w' hx => DCheck_any d h w' (hE.ext hx) (hat.ext hx) hf (by omega) (by omega) hcn
 have hz1 : (d.err == 0) = false := beq_eq_false_iff_ne.2 hz
 have hz2 : (!(d.err == 0)) = true := by rw [hz1]; rfl
 clear hE hat hf hrn hn hcn
 unfold Doc.cells at *
 go_enter Tryz.func8, Tryz.ntmps8
 go_wp2_with (refine wpList_loadB rfl 27 (.tmp 1) rfl w.heap.size 27 _ _ (by exact rfl) (by exact HBd.out) Tryz.underlying27 rfl (by exact size_doc) ?_)
 refine (HCk.out _ HX0.out).mono ?_
 rintro e W1 ⟨rfl, hx1⟩
 have HX1 := Lib.hid (HX0.out.trans hx1)
 clear hx1
 go_wp2_with fail
 go_ret2
 exact ⟨rfl, HX1.out⟩
def encT (d : Doc) : Array Value := if (printL (nodesL d)).length ≤ 262144 then #[.string ⟨(printL (nodesL d)).toArray⟩, .int .i64 0] else #[.string ⟨#[]⟩, .int .i64 9]
set_option maxHeartbeats 2000000 in
set_option maxRecDepth 100000 in
theorem Encode_bad (d : Doc) (h : DocH) (w : World) (hE : Env w) (hat : DocAt w d h) (hf : DocFit d) (hrn : h.rn ≤ 4) (hn : h.en ≤ 4) (hcn : h.cn ≤ 9223372036854775807) (hz : d.err ≠ 0) :
 Calls Tryz.prog 5 #[.agg (d.cells h)] w fun e w' => e = .returned (.tuple #[.string ⟨#[]⟩, .int .i64 d.err]) ∧ Ext w w' := by
 have HX0 := Lib.hid ((Ext.refl w).alloc (.cells (d.cells h) 27))
 have HBd := Lib.hid (Blk.new w 27 (d.cells h))
 have HN := Lib.hid (fun w' (hx : Ext w w') => Nodes_bad d h w' (hE.ext hx) (hat.ext hx) hf hrn hn hcn hz)
 have hz1 : (d.err == 0) = false := beq_eq_false_iff_ne.2 hz
 have hz2 : (!(d.err == 0)) = true := by rw [hz1]; rfl
 clear hE hat hf hrn hn hcn
 unfold Doc.cells at *
 go_enter Tryz.func5, Tryz.ntmps5
 go_wp2_with (refine wpList_loadB rfl 27 (.tmp 1) rfl w.heap.size 27 _ _ (by exact rfl) (by exact HBd.out) Tryz.underlying27 rfl (by exact size_doc) ?_)
 refine (HN.out _ HX0.out).mono ?_
 rintro e W1 ⟨rfl, hx1⟩
 have HX1 := Lib.hid (HX0.out.trans hx1)
 clear hx1
 go_wp2_with fail
 go_ret2
 exact ⟨rfl, HX1.out⟩
structure TmW (w : World) : Prop where
 env : Env w
 tab : TabX w
 ca : CaW w
 ent : EntW w
theorem TmW.ext {w w1 : World} (h : TmW w) (k : Ext w w1) : TmW w1 := ⟨h.env.ext k, h.tab.ext k, h.ca.ext k, h.ent.ext k⟩
set_option maxHeartbeats 2000000 in
set_option maxRecDepth 100000 in
theorem Encode_ok (d : Doc) (h : DocH) (w : World) (hT : TmW w) (hat : DocAt w d h) (hf : DocFit d) (hrn : h.rn ≤ 4) (hn : h.en ≤ 4) (hcn : h.cn ≤ 9223372036854775807) (hz : d.err = 0) (hok : TmOk d) (hfw : DocFew d) :
 Calls Tryz.prog 5 #[.agg (d.cells h)] w fun e w' => e = .returned (.tuple (encT d)) ∧ Ext w w' := by
 have hfew : (nodesL d).length ≤ 8192 := nodes_few hok (by rw [hat.regs.len]; exact hrn) (by rw [hat.evs.len]; exact hn)
 have hsm := nodes_small hok hfw
 have HX0 := Lib.hid ((Ext.refl w).alloc (.cells (d.cells h) 27))
 have HBd := Lib.hid (Blk.new w 27 (d.cells h))
 have HN := Lib.hid (fun w' (hx : Ext w w') => Nodes_ok d h w' (hT.env.ext hx) (hT.tab.ext hx) (hT.ca.1.ext hx) (hT.ca.2.ext hx) (hat.ext hx) hf hrn hn hcn hz hok hfew)
 have HP := Lib.hid (fun A n c w1 (hx : Ext w w1) (ht : NodesAt w1 A n (nodesL d)) => Print_ok A n c (nodesL d) w1 ht (nodes_good hok hfew) (fun x hx => (hsm x hx).sm) (hT.ent.ext hx) (hT.env.ext hx) (print_len hsm hfew))
 have HQ : Hid (encT d = if (printL (nodesL d)).length ≤ 262144 then #[.string ⟨(printL (nodesL d)).toArray⟩, .int .i64 0] else #[.string ⟨#[]⟩, .int .i64 9]) := rfl
 clear hT hat hf hrn hn hcn hz hok hfw hfew hsm
 unfold Doc.cells at *
 go_enter Tryz.func5, Tryz.ntmps5
 go_wp2_with (refine wpList_loadB rfl 27 (.tmp 1) rfl w.heap.size 27 _ _ (by exact rfl) (by exact HBd.out) Tryz.underlying27 rfl (by exact size_doc) ?_)
 refine (HN.out _ HX0.out).mono ?_
 rintro e W1 ⟨v, L, rfl, hL, hown, hx1⟩
 have HX1 := Lib.hid (HX0.out.trans hx1)
 obtain ⟨A, c, rfl, hc, hat1⟩ := hown.at'
 have HA1 := Lib.hid hat1
 clear hx1 hown hat1 hL hc
 obtain ⟨n, hn⟩ : ∃ n, n = (nodesL d).length := ⟨_, rfl⟩
 rw [← hn] at HA1 ⊢
 clear hn
 go_wp2_with fail
 refine (HP.out A n c W1 HX1.out HA1.out).mono ?_
 rintro e W2 ⟨rfl, hx2⟩
 have HX2 := Lib.hid (HX1.out.trans hx2)
 clear hx2
 by_cases hlen : (printL (nodesL d)).length ≤ 262144
 · rw [if_pos hlen] at HQ ⊢
   generalize printL (nodesL d) = pl at HQ
   go_wp2_with fail
   go_ret2
   exact ⟨by rw [HQ.out]; rfl, HX2.out⟩
 · rw [if_neg hlen] at HQ ⊢
   go_wp2_with fail
   go_ret2
   exact ⟨by rw [HQ.out]; rfl, HX2.out⟩
theorem results_Bx1 {P : Program} {fn : Func} {p u : Tmp} {ty : TypeId} (h : fn.results = #[.cell p ty, .tmp u]) {tmps : Array Value} {w : World} {g : Nat} {t : TypeId} {cs : Array Value} {d : TypeDesc} {x : Value} (hp : tmps.getD p undef = .pointer (some ⟨g, 0, none⟩))
 (hB : Blk w g t cs) (hu : P.underlying ty = some d) (hd : d.isRow = true) (hi : (P.info? ty).map (·.size) = some cs.size) (hx : tmps.getD u undef = x) : (results fn tmps).run P w = .ok (.tuple #[.agg cs, x]) w := by
 subst hx
 exact results_B_tmp h hp hB hu hd hi
set_option maxHeartbeats 2000000 in
set_option maxRecDepth 100000 in
theorem Decode_ok (d : Doc) (w : World) (hT : TmW w) (hf : DocFit { d with coms := [] }) (hrn : d.regs.length ≤ 4) (hn : d.evs.length ≤ 4) (hz : d.err = 0) (hok : TmOk d) (hfw : DocFew d) (hlen : (printL (nodesL d)).length ≤ 262144) :
 Calls Tryz.prog 6 #[.string ⟨(printL (nodesL d)).toArray⟩] w fun e w' => ∃ k : DocH, e = .returned (.tuple #[.agg (({ d with coms := [] } : Doc).cells k), .slice none 0 0]) ∧ DocKp w' { d with coms := [] } k ∧ Ext w w' ∧ k.rn = d.regs.length ∧ k.en = d.evs.length ∧ k.cn = 0 := by
 have hfew : (nodesL d).length ≤ 8192 := nodes_few hok hrn hn
 have hsm := nodes_small hok hfw
 obtain ⟨s, hs⟩ : ∃ s : ByteArray, s = ⟨(printL (nodesL d)).toArray⟩ := ⟨_, rfl⟩
 have hsl : s.data.toList = printL (nodesL d) := by rw [hs]
 rw [← hs]
 have hsz : s.size ≤ 262144 := by rw [← size_toList, hsl]; exact hlen
 have HX0 := Lib.hid ((Ext.refl w).alloc (.cells docZ 27))
 have HB0 := Lib.hid (Blk.new w 27 docZ)
 unfold docZ at HX0 HB0
 have HP := Lib.hid (fun w' (hx : Ext w w') => Parse_ok (nodesL d) s w' (nodes_good hok hfew) hsl hsz (hT.ent.ext hx) (hT.env.ext hx))
 have HB := Lib.hid (fun A n c L0 w1 (hx : Ext w w1) (hN : NodesOwn w1 L0 (.slice A n c) (nodesL d)) => Build_ok A n c L0 (nodesL d) { d with coms := [] } w1 hN (nodes_good hok hfew) (fun x hx => (hsm x hx).sm) (hT.env.ext hx) (hT.ca.ext hx) (nodes_add hok) (bare_ok hz) hf (show d.evs.length ≤ 1000000 by omega) (show d.regs.length ≤ 1000000 by omega))
 clear hT hf hrn hn hz hok hfw hfew hsm hlen hsl hs
 go_enter Tryz.func6, Tryz.ntmps6
 go_wp2_with fail
 refine (HP.out _ HX0.out).mono ?_
 rintro e w1 ⟨v, rfl, hown, hx1⟩
 have HX1 := Lib.hid (HX0.out.trans hx1)
 have HB1 := Lib.hid (HB0.out.ext hx1)
 obtain ⟨A, c, rfl, -, -⟩ := hown.at'
 have HN1 := Lib.hid hown
 clear hx1 hown
 obtain ⟨n, hn⟩ : ∃ n, n = (nodesL d).length := ⟨_, rfl⟩
 rw [← hn] at HN1 ⊢
 clear hn
 go_wp2_with fail
 refine (HB.out A n c _ w1 HX1.out HN1.out).mono ?_
 rintro e w2 ⟨k, rfl, hat2, hx2, k1, k2, k3⟩
 have HX2 := Lib.hid (HX1.out.trans hx2)
 have HB2 := Lib.hid (HB1.out.ext hx2)
 have HA2 := Lib.hid hat2
 clear hx2 hat2
 obtain ⟨ra, rn, rc, ea, en, ec, ca, cn, cc⟩ := k
 dsimp only at k1 k2 k3
 subst k1 k2 k3
 unfold Doc.cells
 dsimp only
 have HBn := Lib.hid (Blk.new w2 27 #[.string d.title, .string d.lang, .int .u8 d.rate, .bool d.drop, .int .i64 d.last, .slice ra d.regs.length rc, .slice ea d.evs.length ec, .slice ca 0 cc])
 have HB3 := Lib.hid (HB2.out.alloc (.cells #[.string d.title, .string d.lang, .int .u8 d.rate, .bool d.drop, .int .i64 d.last, .slice ra d.regs.length rc, .slice ea d.evs.length ec, .slice ca 0 cc] 27))
 go_wp2_with (first | (refine wpList_loadB rfl 27 (.tmp 6) rfl w2.heap.size 27 _ _ (by exact rfl) (by exact HBn.out) Tryz.underlying27 rfl (by exact size_docX) ?_) | (refine wpList_storeB rfl 27 (.tmp 2) (.tmp 31) rfl w.heap.size 27 _ _ (by exact rfl) (by exact rfl) (by exact HB3.out) (by exact rfl) (by exact size_docX) (by simp [Value.oneCell']) ?_))
 have hx3 : Ext w2 (w2.alloc (.cells #[.string d.title, .string d.lang, .int .u8 d.rate, .bool d.drop, .int .i64 d.last, .slice ra d.regs.length rc, .slice ea d.evs.length ec, .slice ca 0 cc] 27)) := (Ext.refl w2).alloc _
 have hk : ∀ T : TypeId, T ≠ 27 → KB T w2 (putB (w2.alloc (.cells #[.string d.title, .string d.lang, .int .u8 d.rate, .bool d.drop, .int .i64 d.last, .slice ra d.regs.length rc, .slice ea d.evs.length ec, .slice ca 0 cc] 27)) w.heap.size 27 #[.string d.title, .string d.lang, .int .u8 d.rate, .bool d.drop, .int .i64 d.last, .slice ra d.regs.length rc, .slice ea d.evs.length ec, .slice ca 0 cc]) := fun T hn => (KB.ext hx3).trans (KB.put HB3.out hn)
 refine bodyPost_ret (v := .tuple #[.agg (({ d with coms := [] } : Doc).cells ⟨ra, d.regs.length, rc, ea, d.evs.length, ec, ca, 0, cc⟩), .slice none 0 0]) ?_ rfl ⟨_, rfl, HA2.out.go (hk _ (by decide)) (hk _ (by decide)) (hk _ (by decide)) (hk _ (by decide)) (by rw [putB_size]; exact hx3.size), (HX2.out.trans hx3).put (Nat.le_refl _) 27 _, rfl, rfl, rfl⟩
 exact results_Bx1 Tryz.results6 rfl (HB3.out.put _) Tryz.underlying27 rfl size_docX rfl
end
end Go.Proofs.YtbmblnhfmpolbaaGreatDoor