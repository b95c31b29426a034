/- Texts laid together. -/
import Derived.Test.YtbmblnhfmpolbaaGreatDoorTm12
import Derived.Test.YtbmblnhfmpolbaaGreatDoorTm03
import Derived.Test.YtbmblnhfmpolbaaGreatDoorTm06
import Derived.Test.YtbmblnhfmpolbaaGreatDoorTm10
import Derived.Deep.AppendLies
set_option linter.unusedVariables false
set_option linter.unusedSimpArgs false
namespace Go.Proofs.YtbmblnhfmpolbaaGreatDoor
section
open Go.RowKit Go.Maps
def evErr (regs : List Reg) (last : Int) (pre : List Ev) (x : Ev) : Int := if x.err regs ≠ 0 then x.err regs else if last < x.id then 2 else if (pre.getLast?.map fun p => lessB p x) = some false then 8 else if (findE pre x.id).isSome = true then 7 else 0
theorem evs_cons (regs : List Reg) (last : Int) (pre : List Ev) (x : Ev) (l : List Ev) : evsLoop regs last pre (x :: l) = if evErr regs last pre x ≠ 0 then evErr regs last pre x else evsLoop regs last (pre ++ [x]) l := by
 rw [evsLoop]
 unfold evErr
 repeat' split
 all_goals first | rfl | omega | simp_all
theorem evs_step {l : List Ev} {k : Nat} {x : Ev} {E last : Int} {regs : List Reg} (hx : l[k]? = some x) (hP : E = evsLoop regs last (l.take k) (l.drop k)) :
 (evErr regs last (l.take k) x ≠ 0 → E = evErr regs last (l.take k) x) ∧ (evErr regs last (l.take k) x = 0 → E = evsLoop regs last (l.take (k + 1)) (l.drop (k + 1))) := by
 rw [drop_at l k x hx, evs_cons] at hP
 refine ⟨fun h => by rw [if_pos h] at hP; exact hP, fun h => ?_⟩
 rw [if_neg (by simpa using h)] at hP
 rw [hP, take_snoc' l k x hx]
section
variable {regs : List Reg} {last : Int} {pre : List Ev} {x : Ev}
theorem ev_1 (h : x.err regs ≠ 0) : evErr regs last pre x = x.err regs := by unfold evErr; rw [if_pos h]
theorem ev_2 (h : x.err regs = 0) (h1 : last < x.id) : evErr regs last pre x = 2 := by unfold evErr; rw [if_neg (by simpa using h), if_pos h1]
theorem ev_3 (h : x.err regs = 0) (h1 : ¬ last < x.id) (h2 : (pre.getLast?.map fun p => lessB p x) = some false) : evErr regs last pre x = 8 := by unfold evErr; rw [if_neg (by simpa using h), if_neg h1, if_pos h2]
theorem ev_4 (h : x.err regs = 0) (h1 : ¬ last < x.id) (h2 : ¬ (pre.getLast?.map fun p => lessB p x) = some false) (h3 : (findE pre x.id).isSome = true) : evErr regs last pre x = 7 := by unfold evErr; rw [if_neg (by simpa using h), if_neg h1, if_neg h2, if_pos h3]
theorem ev_5 (h : x.err regs = 0) (h1 : ¬ last < x.id) (h2 : ¬ (pre.getLast?.map fun p => lessB p x) = some false) (h3 : (findE pre x.id).isSome = false) : evErr regs last pre x = 0 := by unfold evErr; rw [if_neg (by simpa using h), if_neg h1, if_neg h2, if_neg (by simp [h3])]
end
section
variable {d : Doc}
theorem doc_1 (h : d.headErr ≠ 0) : d.err = d.headErr := by unfold Doc.err; rw [if_pos h]
theorem doc_2 (h : d.headErr = 0) (h1 : regsErr d.regs ≠ 0) : d.err = regsErr d.regs := by unfold Doc.err; rw [if_neg (by simpa using h), if_pos h1]
theorem doc_3 (h : d.headErr = 0) (h1 : regsErr d.regs = 0) (h2 : 400 < d.evs.length) : d.err = 9 := by unfold Doc.err; rw [if_neg (by simpa using h), if_neg (by simpa using h1), if_pos h2]
theorem doc_4 (h : d.headErr = 0) (h1 : regsErr d.regs = 0) (h2 : ¬ 400 < d.evs.length) (h3 : evsLoop d.regs d.last [] d.evs ≠ 0) : d.err = evsLoop d.regs d.last [] d.evs := by unfold Doc.err; rw [if_neg (by simpa using h), if_neg (by simpa using h1), if_neg h2, if_pos h3]
theorem doc_5 (h : d.headErr = 0) (h1 : regsErr d.regs = 0) (h2 : ¬ 400 < d.evs.length) (h3 : evsLoop d.regs d.last [] d.evs = 0) : d.err = comsErr d.last d.evs d.coms := by unfold Doc.err comsErr; rw [if_neg (by simpa using h), if_neg (by simpa using h1), if_neg h2, if_neg (by simpa using h3)]
end
structure DocFit (d : Doc) : Prop where
 ok : DocOk d
 regs : RegsSmall d.regs
 evs : EvsSmall d.evs
 ids : ∀ e ∈ d.evs, IW e.id
 coms : ComsOk d.coms
def DcRel (w w1 : World) (B n : Nat) (regs : List Reg) (last : Int) (l : List Ev) (i : Value) (wr : World) : Prop :=
 ∃ k : Nat, k ≤ n ∧ i = .int .i64 k ∧ Ext w1 wr ∧ MapE wr 3 B (l.take k) ∧ evsLoop regs last [] l = evsLoop regs last (l.take k) (l.drop k)
theorem prev_ev {w : World} {A : Option Addr} {n : Nat} {l : List Ev} (h : EvsAt w A n l) {k : Nat} (hk : k ≤ n) (h0 : 0 < k) : ∃ b off p A' n' c', A = some ⟨b, off, none⟩ ∧ (∀ j u, (p.cells A' n' c').toList[j]? = some u → w.cell? ⟨b, off + (k - 1) * 7 + j, none⟩ = some u) ∧ (l.take k).getLast? = some p := by
 obtain ⟨j, rfl⟩ : ∃ j, k = j + 1 := ⟨k - 1, by omega⟩
 obtain ⟨b, off, p, hA, hp, A', n', c', hc, _⟩ := h.at_ (i := j) (by omega)
 exact ⟨b, off, p, A', n', c', hA, by simpa using hc, by rw [take_snoc' l j p hp]; simp⟩
theorem own_mext {w w1 : World} {T : TypeId} {B n : Nat} {D : DataW Unit} (h : w.ownsMap Tryz.prog 2 (plainElem Tryz.prog T) B n D) (k : Ext w w1) : w1.ownsMap Tryz.prog 2 (plainElem Tryz.prog T) B n D := by
 obtain ⟨es, cl, h1, h2⟩ := h
 exact ⟨es, cl, (k.block B (Array.getElem?_eq_some_iff.1 h1).1).trans h1, h2⟩
theorem turned_ext {w0 w w1 : World} {b : Nat} (h : w.mapTurned w1 b) (k : Ext w0 w) (hb : w0.heap.size ≤ b) : Ext w0 w1 := k.grown h.grown (fun q hq => by cases hq; exact hb)
set_option maxRecDepth 100000 in
set_option maxHeartbeats 8000000 in
theorem DCheck_any (d : Doc) (h : DocH) (w : World) (hE : Env w) (hat : DocAt w d h) (hf : DocFit d) (hrn : h.rn ≤ 9223372036854775807) (hn : h.en ≤ 1000000) (hcn : h.cn ≤ 9223372036854775807) :
 Calls Tryz.prog 17 #[.agg (d.cells h)] w fun en w' => en = .returned (.int .i64 d.err) ∧ Ext w w' := by
 have HX := Lib.hid ((Ext.refl w).alloc (.cells (d.cells h) 27))
 have HB := Lib.hid (Blk.new w 27 (d.cells h))
 have HEv := Lib.hid hat.evs
 have HEl := Lib.hid hat.evs.len
 have HE := Lib.hid hE
 have HHd := Lib.hid (fun w' (hx : Ext w w') => header_any d h w' (hE.ext hx) hf.ok)
 have HLs := Lib.hid (fun w' (hx : Ext w w') => CheckList_any h.ra h.rn h.rc d.regs w' (hat.regs.ext hx) hrn hf.regs)
 have HCm := Lib.hid (fun B w' (hx : Ext w w') (hm : MapE w' 3 B d.evs) => comments_any d h B w' (hE.ext hx) (hat.ext hx) hm hf.evs hn hcn hf.coms)
 have HEc := Lib.hid (fun (e : Ev) (he : e ∈ d.evs) A n c w' (hx : Ext w w') (hev : EvAt w' e A n c) => ECheck_any e A n c h.ra h.rn h.rc d.regs w' (hE.ext hx) hev (hf.evs e he).1 (hat.regs.ext hx) hrn hf.regs)
 have HId := Lib.hid hf.ids
 have D1 := Lib.hid (@doc_1 d)
 have D2 := Lib.hid (@doc_2 d)
 have D3 := Lib.hid (@doc_3 d)
 have D4 := Lib.hid (@doc_4 d)
 have D5 := Lib.hid (@doc_5 d)
 rw [hat.evs.len] at D3 D4 D5
 have hmm := @run_makeMap Tryz.prog
 clear hat hf hE
 unfold Doc.cells at *
 obtain ⟨hra, hrn', hrc, hea, n, hec, hca, hcn', hcc⟩ := h
 dsimp only at *
 go_enter Tryz.func17, Tryz.ntmps17
 go_wp2_with (refine wpList_loadB rfl 27 (.tmp 1) rfl w.heap.size 27 _ _ (by exact rfl) (by exact HB.out) Tryz.underlying27 rfl (by exact size_doc) ?_)
 refine (HHd.out _ HX.out).mono ?_
 rintro en w1 ⟨rfl, hx1⟩
 have HX1 := Lib.hid (HX.out.trans hx1)
 have HB1 := Lib.hid (HB.out.ext hx1)
 clear hx1
 have hc1 := fun o => HB1.out.cell o
 by_cases h0 : d.headErr = 0
 case neg =>
  have hne : (d.headErr != 0) = true := by simpa using h0
  have HH := Lib.hid h0
  clear h0
  go_wp2_with fail
  go_ret
  exact ⟨ret_int (D1.out HH.out).symm, HX1.out⟩
 rw [h0]
 have HH := Lib.hid h0
 clear h0 D1
 go_wp2_with fail
 refine (HLs.out _ HX1.out).mono ?_
 rintro en w2 ⟨rfl, hx2⟩
 have HX2 := Lib.hid (HX1.out.trans hx2)
 have HB2 := Lib.hid (HB1.out.ext hx2)
 clear hx2 hc1
 have hc2 := fun o => HB2.out.cell o
 by_cases h1 : regsErr d.regs = 0
 case neg =>
  have hne : (regsErr d.regs != 0) = true := by simpa using h1
  have HR := Lib.hid h1
  clear h1
  go_wp2_with fail
  go_ret
  exact ⟨ret_int (D2.out HH.out HR.out).symm, HX2.out⟩
 rw [h1]
 have HR := Lib.hid h1
 clear h1 D2
 by_cases h4 : 400 < n
 · have h4i : (400 : Int) < (n : Int) := by omega
   go_wp2_with fail
   go_ret
   exact ⟨ret_int (D3.out HH.out HR.out h4).symm, HX2.out⟩
 have h4i : ¬ (400 : Int) < (n : Int) := by omega
 have H4 := Lib.hid h4
 clear D3 h4
 have HMm := Lib.hid (MapE.made w2 3)
 have HXm := Lib.hid ((Ext.refl w2).alloc (.map #[] 0))
 have HBm := Lib.hid (HB2.out.ext HXm.out)
 have hcm := fun o => HBm.out.cell o
 have hb2 := HB2.out.lt
 go_wp2_with fail
 clear hcm hc2 hmm
 go_loopw [30] (fun i wr => DcRel w w2 w2.heap.size n d.regs d.last d.evs i wr) (fun i _ => n - (intOf i).toNat)
 case atStart => exact ⟨0, Nat.zero_le _, rfl, HXm.out, by simpa using HMm.out, by simp⟩
 case round =>
  obtain ⟨k, hk, rfl, hx, hM, hP⟩ := hrel
  have HXr := Lib.hid (HX2.out.trans hx)
  have HBr := Lib.hid (HB2.out.ext hx)
  by_cases hlt : k < n
  · obtain ⟨b, off, x, rfl, hxx, A', n', c', hC, hEv⟩ := (HEv.out.ext HXr.out).at_ hlt
    have hxm := List.mem_of_getElem? hxx
    have HS := Lib.hid (evs_step hxx hP)
    have RET : ∀ e : Int, evErr d.regs d.last (d.evs.take k) x = e → e ≠ 0 → d.err = e := fun e h1 h2 => by
     have h3 := HS.out.1 (by rw [h1]; exact h2)
     exact (D4.out HH.out HR.out H4.out (by rw [h3, h1]; exact h2)).trans (h3.trans h1)
    have HRet := Lib.hid RET
    have HPv := Lib.hid (fun h0 => prev_ev (HEv.out.ext HXr.out) (k := k) hk h0)
    have HEx := Lib.hid (fun w' (hx' : Ext w w') (hev : EvAt w' x A' n' c') => HEc.out x hxm A' n' c' w' hx' hev)
    have HAt := Lib.hid hEv
    have HIw := Lib.hid (HId.out x hxm)
    have HKey := Lib.hid (HId.out x hxm).key
    have HTk := Lib.hid (take_snoc' d.evs k x hxx)
    have HTl : Hid ((d.evs.take k).length = k) := by show _ = _; rw [List.length_take]; have := HEl.out; omega
    have c0 : wr.cell? ⟨b, off + k * 7, none⟩ = some (.int .i64 x.id) := by simpa using hC 0 _ rfl
    have c1 : wr.cell? ⟨b, off + k * 7 + 1, none⟩ = some (.int .i64 x.inn) := hC 1 _ rfl
    have c2 : wr.cell? ⟨b, off + k * 7 + 2, none⟩ = some (.int .i64 x.out) := hC 2 _ rfl
    have c3 : wr.cell? ⟨b, off + k * 7 + 3, none⟩ = some (.string x.region) := hC 3 _ rfl
    have c4 : wr.cell? ⟨b, off + k * 7 + 4, none⟩ = some (.int .u8 x.kind) := hC 4 _ rfl
    have c5 : wr.cell? ⟨b, off + k * 7 + 5, none⟩ = some (.string x.speaker) := hC 5 _ rfl
    have c6 : wr.cell? ⟨b, off + k * 7 + 6, none⟩ = some (.slice A' n' c') := hC 6 _ rfl
    have HM := Lib.hid hM
    clear RET hxx hP hxm hC hEv hM
    have E1 := Lib.hid (fun p => @ev_1 d.regs d.last p x)
    have E2 := Lib.hid (fun p => @ev_2 d.regs d.last p x)
    have E3 := Lib.hid (fun p => @ev_3 d.regs d.last p x)
    have E4 := Lib.hid (fun p => @ev_4 d.regs d.last p x)
    have E5 := Lib.hid (fun p => @ev_5 d.regs d.last p x)
    unfold Ev.cells at HEx
    have HBc := Lib.hid (Blk.new wr 60 #[.int .i64 x.id, .int .i64 x.inn, .int .i64 x.out, .string x.region, .int .u8 x.kind, .string x.speaker, .slice A' n' c'])
    have HXc := Lib.hid ((Ext.refl wr).alloc (.cells #[.int .i64 x.id, .int .i64 x.inn, .int .i64 x.out, .string x.region, .int .u8 x.kind, .string x.speaker, .slice A' n' c'] 60))
    have HBl := Lib.hid (HBr.out.ext HXc.out)
    have HX3 := Lib.hid (HXr.out.trans HXc.out)
    have hbr := fun o => HBl.out.cell o
    have hbc := fun o => HBc.out.cell o
    go_wp2_with (refine wpList_loadB rfl 60 (.tmp 7) rfl wr.heap.size 60 _ _ (by exact rfl) (by exact HBc.out) Tryz.underlying60 rfl (by exact size_evt) ?_)
    refine (HEx.out _ HX3.out (HAt.out.ext HXc.out)).mono ?_
    rintro en w4 ⟨rfl, hx4⟩
    clear hbr hbc c0 c1 c2 c3 c4 c5 c6
    have HX4 := Lib.hid (HX3.out.trans hx4)
    have HX4r := Lib.hid (HXc.out.trans hx4)
    have HB4 := Lib.hid (HBl.out.ext hx4)
    have HC4 := Lib.hid (HBc.out.ext hx4)
    clear hx4
    have hb4 := fun o => HB4.out.cell o
    have hc4 := fun o => HC4.out.cell o
    by_cases he : x.err d.regs = 0
    case neg =>
     have hne : (x.err d.regs != 0) = true := by simpa using he
     have HRe := Lib.hid (HRet.out _ (E1.out _ he) he)
     clear he
     go_wp2_with fail
     go_ret
     exact ⟨ret_int HRe.out.symm, HX4.out⟩
    rw [he]
    have HEr := Lib.hid he
    clear he E1
    obtain ⟨nm, Dm, hown, hnm, hmap, hhas, hatk⟩ := HM.out.ext HX4r.out
    have HOw := Lib.hid hown
    have HOm := Lib.hid hmap
    have HHs := Lib.hid hhas
    have HAk := Lib.hid hatk
    have hnl : nm < maxLen := by have := HTl.out; simp [maxLen]; omega
    have HNm := Lib.hid hnm
    have hhas2 := hhas x.id HIw.out
    clear hown hmap hhas hatk
    by_cases hi2 : d.last < x.id
    · have HRe := Lib.hid (HRet.out _ (E2.out _ HEr.out hi2) (by decide))
      clear hhas2
      go_wp2_with (at_lookup; refine wpList_lookup_own_ok_int _ rfl _ _ 116 rfl 2 3 .i64 key64 Tryz.underlying116 Tryz.underlying3 (zero_int _) w2.heap.size nm Dm rfl (by exact HOw.out) _ _ rfl (by exact HKey.out) ?_; intro c0 hat hwc; have HAt0 := Lib.hid hat; clear hat hwc)
      go_ret
      exact ⟨ret_int HRe.out.symm, HX4.out⟩
    have HLa := Lib.hid hi2
    clear E2
    by_cases hk0 : k = 0
    case pos =>
     subst hk0
     have HPn : Hid (¬ ((d.evs.take 0).getLast?.map fun p => lessB p x) = some false) := by show ¬ _; simp
     have hfs : (findE (d.evs.take 0) x.id).isSome = false := rfl
     rw [hfs] at hhas2
     go_wp2_with (at_lookup; refine wpList_lookup_own_ok_int _ rfl _ _ 116 rfl 2 3 .i64 key64 Tryz.underlying116 Tryz.underlying3 (zero_int _) w2.heap.size nm Dm rfl (by exact HOw.out) _ _ rfl (by exact HKey.out) ?_; intro c0 hat hwc; have HAt0 := Lib.hid hat; clear hat hwc)
     go_quiet (fail)
     go_wp2_with (at_mapUpdate; refine wpList_mapUpdate_in _ rfl _ _ _ 116 rfl 2 3 key64 Tryz.underlying116 (plainElem Tryz.prog 3) w2.heap.size nm Dm rfl (by exact own_mext HOw.out ((Ext.refl _).drewN _)) hnl _ _ (.int .i64 x.id) rfl rfl (by exact HKey.out) (.lit (.int .i64 (0 : Int))) [] (plainElem_int Tryz.underlying3 (IW.wf ⟨by omega, by omega⟩)) ?_; intro w10 hown1 hturn1)
     exact ⟨⟨1, by omega, by go_num, turned_ext hturn1 (hx.trans (HX4r.out.drewN _)) (Nat.le_refl _), by rw [HTk.out]; exact MapE.put (w := w) HNm.out HOm.out HHs.out HAk.out HIw.out (by rfl) (by rw [HTl.out]; exact hown1), HS.out.2 (E5.out _ HEr.out (by have := HLa.out; omega) HPn.out (by rfl))⟩, by simp [intOf]; omega⟩
    obtain ⟨b', off', p, A2, n2, c2, hA, hC2, hq⟩ := HPv.out (by omega)
    cases hA
    have hki : (0 : Int) < (k : Int) := by omega
    have hkp : 0 < k := by omega
    have hk1 : ((k : Int) - 1).toNat = k - 1 := by omega
    have hk2 : (k : Int) - 1 = ((k - 1 : Nat) : Int) := by omega
    have HCp : Hid (∀ j u, (p.cells A2 n2 c2).toList[j]? = some u → w4.cell? ⟨b, off + (k - 1) * 7 + j, none⟩ = some u) := fun j u hu => HX4r.out.cell (hC2 j u hu)
    have HQ := Lib.hid hq
    have HLess := Lib.hid (fun w' => Less_any p x A2 n2 c2 A' n' c' w')
    clear hC2 hq
    cases hle : lessB p x
    case false =>
     rw [hle] at HLess
     have HRe := Lib.hid (HRet.out _ (E3.out _ HEr.out (by have := HLa.out; omega) (by rw [HQ.out]; simp [hle])) (by decide))
     clear hhas2
     go_wp2_with (at_lookup; refine wpList_lookup_own_ok_int _ rfl _ _ 116 rfl 2 3 .i64 key64 Tryz.underlying116 Tryz.underlying3 (zero_int _) w2.heap.size nm Dm rfl (by exact HOw.out) _ _ rfl (by exact HKey.out) ?_; intro c0 hat hwc; have HAt0 := Lib.hid hat; clear hat hwc)
     refine wp_region_vals [.int .i64 (k : Int), .bool true, .bool true, .pointer (some ⟨w.heap.size, 6, none⟩), .slice (some ⟨b, off, none⟩) n hec, .int .i64 (k : Int), .int .i64 ((k - 1 : Nat) : Int), .pointer (some ⟨b, off + (k - 1) * 7, none⟩), .agg #[.int .i64 p.id, .int .i64 p.inn, .int .i64 p.out, .string p.region, .int .u8 p.kind, .string p.speaker, .slice A2 n2 c2], .agg #[.int .i64 x.id, .int .i64 x.inn, .int .i64 x.out, .string x.region, .int .u8 x.kind, .string x.speaker, .slice A' n' c'], .bool false, .bool true, .bool true, .bool true] [(56, .int .i64 (k : Int)), (57, .bool true), (58, .bool true), (59, .pointer (some ⟨w.heap.size, 6, none⟩)), (60, .slice (some ⟨b, off, none⟩) n hec), (61, .int .i64 (k : Int)), (62, .int .i64 ((k - 1 : Nat) : Int)), (63, .pointer (some ⟨b, off + (k - 1) * 7, none⟩)), (64, .agg #[.int .i64 p.id, .int .i64 p.inn, .int .i64 p.out, .string p.region, .int .u8 p.kind, .string p.speaker, .slice A2 n2 c2]), (65, .agg #[.int .i64 x.id, .int .i64 x.inn, .int .i64 x.out, .string x.region, .int .u8 x.kind, .string x.speaker, .slice A' n' c']), (66, .bool false), (67, .bool true), (68, .bool true), (55, .bool true)] (by kernel_rfl) (by kernel_rfl) (by kernel_rfl) rfl rfl ?_ ?_
     · intro i o ho a w' K' hx hn hd hk
       match i, ho with
       | 0, ho =>
        simp only [List.getElem?_toArray, List.getElem?_cons_zero, List.getElem?_cons_succ, Option.some.injEq] at ho
        subst ho
        refine want_none rfl ?_
        exact wp_move _ _ rfl ((hn 6 rfl).trans (show _ = Value.int .i64 (k : Int) from rfl)) (hk _ rfl w' (Ext.refl _))
       | 1, ho =>
        simp only [List.getElem?_toArray, List.getElem?_cons_zero, List.getElem?_cons_succ, Option.some.injEq] at ho
        subst ho
        refine want_none rfl ?_
        exact wp_bin rfl (eval_of (hd 0 56 (.int .i64 (k : Int)) rfl rfl rfl)) rfl (by first | (go_simp; done) | (go_simp; simp; omega) | (simp; omega)) (hk _ rfl w' (Ext.refl _))
       | 2, ho =>
        simp only [List.getElem?_toArray, List.getElem?_cons_zero, List.getElem?_cons_succ, Option.some.injEq] at ho
        subst ho
        refine want_none rfl ?_
        exact wp_move _ _ rfl (eval_of (hd 1 57 (.bool true) rfl rfl rfl)) (hk _ rfl w' (Ext.refl _))
       | 3, ho =>
        simp only [List.getElem?_toArray, List.getElem?_cons_zero, List.getElem?_cons_succ, Option.some.injEq] at ho
        subst ho
        refine want_yes rfl rfl (hd 2 58 (.bool true) rfl rfl rfl) rfl ?_
        have ex1 := ((hn 1 rfl).trans (show _ = Value.pointer (some ⟨w.heap.size, 0, none⟩) from rfl))
        simp only [Act.eval] at ex1
        have HK := Lib.hid (hk (.pointer (some ⟨w.heap.size, 6, none⟩)) rfl w' (Ext.refl _))
        clear hx hn hd hk
        go_simp
        exact HK.out
       | 4, ho =>
        simp only [List.getElem?_toArray, List.getElem?_cons_zero, List.getElem?_cons_succ, Option.some.injEq] at ho
        subst ho
        refine want_yes rfl rfl (hd 2 58 (.bool true) rfl rfl rfl) rfl ?_
        have ex59 := (eval_of (hd 3 59 (.pointer (some ⟨w.heap.size, 6, none⟩)) rfl rfl rfl))
        have hcl : w'.cell? ⟨w.heap.size, 6, none⟩ = some (.slice (some ⟨b, off, none⟩) n hec) := (HB4.out.ext hx).cell 6
        simp only [Act.eval] at ex59
        have HK := Lib.hid (hk (.slice (some ⟨b, off, none⟩) n hec) rfl w' (Ext.refl _))
        clear hx hn hd hk
        go_simp
        exact HK.out
       | 5, ho =>
        simp only [List.getElem?_toArray, List.getElem?_cons_zero, List.getElem?_cons_succ, Option.some.injEq] at ho
        subst ho
        refine want_yes rfl rfl (hd 2 58 (.bool true) rfl rfl rfl) rfl ?_
        exact wp_move _ _ rfl ((hn 6 rfl).trans (show _ = Value.int .i64 (k : Int) from rfl)) (hk _ rfl w' (Ext.refl _))
       | 6, ho =>
        simp only [List.getElem?_toArray, List.getElem?_cons_zero, List.getElem?_cons_succ, Option.some.injEq] at ho
        subst ho
        refine want_yes rfl rfl (hd 2 58 (.bool true) rfl rfl rfl) rfl ?_
        exact wp_bin rfl (eval_of (hd 5 61 (.int .i64 (k : Int)) rfl rfl rfl)) rfl (by first | (go_simp; done) | (go_simp; rw [wrap_i64 (by omega) (by omega)]; done) | (go_simp; exact wrap_i64 (by omega) (by omega))) (hk _ rfl w' (Ext.refl _))
       | 7, ho =>
        simp only [List.getElem?_toArray, List.getElem?_cons_zero, List.getElem?_cons_succ, Option.some.injEq] at ho
        subst ho
        refine want_yes rfl rfl (hd 2 58 (.bool true) rfl rfl rfl) rfl ?_
        exact wp_ix_ev rfl (eval_of (hd 4 60 (.slice (some ⟨b, off, none⟩) n hec) rfl rfl rfl)) (eval_of (hd 6 62 (.int .i64 ((k - 1 : Nat) : Int)) rfl rfl rfl)) (by omega) (hk _ rfl w' (Ext.refl _))
       | 8, ho =>
        simp only [List.getElem?_toArray, List.getElem?_cons_zero, List.getElem?_cons_succ, Option.some.injEq] at ho
        subst ho
        refine want_yes rfl rfl (hd 2 58 (.bool true) rfl rfl rfl) rfl ?_
        exact wp_load_ev rfl b _ p A2 n2 c2 (eval_of (hd 7 63 (.pointer (some ⟨b, off + (k - 1) * 7, none⟩)) rfl rfl rfl)) (fun j u hu => hx.cell (HCp.out j u hu)) (hk _ rfl w' (Ext.refl _))
       | 9, ho =>
        simp only [List.getElem?_toArray, List.getElem?_cons_zero, List.getElem?_cons_succ, Option.some.injEq] at ho
        subst ho
        refine want_yes rfl rfl (hd 2 58 (.bool true) rfl rfl rfl) rfl ?_
        exact wp_loadB 60 (.tmp 7) rfl _ 60 _ _ ((hn 7 rfl).trans (show _ = Value.pointer (some ⟨wr.heap.size, 0, none⟩) from rfl)) (HC4.out.ext hx) Tryz.underlying60 rfl (by exact size_evt) (hk _ rfl w' (Ext.refl _))
       | 10, ho =>
        simp only [List.getElem?_toArray, List.getElem?_cons_zero, List.getElem?_cons_succ, Option.some.injEq] at ho
        subst ho
        refine want_yes rfl rfl (hd 2 58 (.bool true) rfl rfl rfl) rfl ?_
        exact wp_call2 rfl (eval_of (hd 8 64 (.agg #[.int .i64 p.id, .int .i64 p.inn, .int .i64 p.out, .string p.region, .int .u8 p.kind, .string p.speaker, .slice A2 n2 c2]) rfl rfl rfl)) (eval_of (hd 9 65 (.agg #[.int .i64 x.id, .int .i64 x.inn, .int .i64 x.out, .string x.region, .int .u8 x.kind, .string x.speaker, .slice A' n' c']) rfl rfl rfl)) Tryz.call39 ((HLess.out w')) (hk _ rfl)
       | 11, ho =>
        simp only [List.getElem?_toArray, List.getElem?_cons_zero, List.getElem?_cons_succ, Option.some.injEq] at ho
        subst ho
        refine want_yes rfl rfl (hd 2 58 (.bool true) rfl rfl rfl) rfl ?_
        exact wp_un rfl (eval_of (hd 10 66 (.bool false) rfl rfl rfl)) (by first | (go_simp; done) | (go_simp; simp)) (hk _ rfl w' (Ext.refl _))
       | 12, ho =>
        simp only [List.getElem?_toArray, List.getElem?_cons_zero, List.getElem?_cons_succ, Option.some.injEq] at ho
        subst ho
        refine want_none rfl ?_
        exact wp_pick _ _ _ true _ rfl (eval_of (hd 2 58 (.bool true) rfl rfl rfl)) (by exact (eval_of (hd 11 67 (.bool true) rfl rfl rfl))) (hk _ rfl w' (Ext.refl _))
       | 13, ho =>
        simp only [List.getElem?_toArray, List.getElem?_cons_zero, List.getElem?_cons_succ, Option.some.injEq] at ho
        subst ho
        refine want_none rfl ?_
        exact wp_assignx _ _ rfl (eval_of (hd 12 68 (.bool true) rfl rfl rfl)) (hk _ rfl w' (Ext.refl _))
       | i + 14, ho => simp at ho
     intro w9 hx9
     simp only [Act.put, List.foldl_cons, List.foldl_nil, List.setIfInBounds_toArray, List.set_cons_zero, List.set_cons_succ]
     go_wp2_with fail
     go_ret
     exact ⟨ret_int HRe.out.symm, HX4.out.trans hx9⟩
    have HPn : Hid (¬ ((d.evs.take k).getLast?.map fun p => lessB p x) = some false) := by show ¬ _; rw [HQ.out]; simp [hle]
    rw [hle] at HLess
    cases hfs : (findE (d.evs.take k) x.id).isSome
    case true =>
     have HRe := Lib.hid (HRet.out _ (E4.out _ HEr.out (by have := HLa.out; omega) HPn.out hfs) (by decide))
     rw [hfs] at hhas2
     clear hfs
     go_wp2_with (at_lookup; refine wpList_lookup_own_ok_int _ rfl _ _ 116 rfl 2 3 .i64 key64 Tryz.underlying116 Tryz.underlying3 (zero_int _) w2.heap.size nm Dm rfl (by exact HOw.out) _ _ rfl (by exact HKey.out) ?_; intro c0 hat hwc; have HAt0 := Lib.hid hat; clear hat hwc)
     refine wp_region_vals [.int .i64 (k : Int), .bool true, .bool true, .pointer (some ⟨w.heap.size, 6, none⟩), .slice (some ⟨b, off, none⟩) n hec, .int .i64 (k : Int), .int .i64 ((k - 1 : Nat) : Int), .pointer (some ⟨b, off + (k - 1) * 7, none⟩), .agg #[.int .i64 p.id, .int .i64 p.inn, .int .i64 p.out, .string p.region, .int .u8 p.kind, .string p.speaker, .slice A2 n2 c2], .agg #[.int .i64 x.id, .int .i64 x.inn, .int .i64 x.out, .string x.region, .int .u8 x.kind, .string x.speaker, .slice A' n' c'], .bool true, .bool false, .bool false, .bool false] [(56, .int .i64 (k : Int)), (57, .bool true), (58, .bool true), (59, .pointer (some ⟨w.heap.size, 6, none⟩)), (60, .slice (some ⟨b, off, none⟩) n hec), (61, .int .i64 (k : Int)), (62, .int .i64 ((k - 1 : Nat) : Int)), (63, .pointer (some ⟨b, off + (k - 1) * 7, none⟩)), (64, .agg #[.int .i64 p.id, .int .i64 p.inn, .int .i64 p.out, .string p.region, .int .u8 p.kind, .string p.speaker, .slice A2 n2 c2]), (65, .agg #[.int .i64 x.id, .int .i64 x.inn, .int .i64 x.out, .string x.region, .int .u8 x.kind, .string x.speaker, .slice A' n' c']), (66, .bool true), (67, .bool false), (68, .bool false), (55, .bool false)] (by kernel_rfl) (by kernel_rfl) (by kernel_rfl) rfl rfl ?_ ?_
     · intro i o ho a w' K' hx hn hd hk
       match i, ho with
       | 0, ho =>
        simp only [List.getElem?_toArray, List.getElem?_cons_zero, List.getElem?_cons_succ, Option.some.injEq] at ho
        subst ho
        refine want_none rfl ?_
        exact wp_move _ _ rfl ((hn 6 rfl).trans (show _ = Value.int .i64 (k : Int) from rfl)) (hk _ rfl w' (Ext.refl _))
       | 1, ho =>
        simp only [List.getElem?_toArray, List.getElem?_cons_zero, List.getElem?_cons_succ, Option.some.injEq] at ho
        subst ho
        refine want_none rfl ?_
        exact wp_bin rfl (eval_of (hd 0 56 (.int .i64 (k : Int)) rfl rfl rfl)) rfl (by first | (go_simp; done) | (go_simp; simp; omega) | (simp; omega)) (hk _ rfl w' (Ext.refl _))
       | 2, ho =>
        simp only [List.getElem?_toArray, List.getElem?_cons_zero, List.getElem?_cons_succ, Option.some.injEq] at ho
        subst ho
        refine want_none rfl ?_
        exact wp_move _ _ rfl (eval_of (hd 1 57 (.bool true) rfl rfl rfl)) (hk _ rfl w' (Ext.refl _))
       | 3, ho =>
        simp only [List.getElem?_toArray, List.getElem?_cons_zero, List.getElem?_cons_succ, Option.some.injEq] at ho
        subst ho
        refine want_yes rfl rfl (hd 2 58 (.bool true) rfl rfl rfl) rfl ?_
        have ex1 := ((hn 1 rfl).trans (show _ = Value.pointer (some ⟨w.heap.size, 0, none⟩) from rfl))
        simp only [Act.eval] at ex1
        have HK := Lib.hid (hk (.pointer (some ⟨w.heap.size, 6, none⟩)) rfl w' (Ext.refl _))
        clear hx hn hd hk
        go_simp
        exact HK.out
       | 4, ho =>
        simp only [List.getElem?_toArray, List.getElem?_cons_zero, List.getElem?_cons_succ, Option.some.injEq] at ho
        subst ho
        refine want_yes rfl rfl (hd 2 58 (.bool true) rfl rfl rfl) rfl ?_
        have ex59 := (eval_of (hd 3 59 (.pointer (some ⟨w.heap.size, 6, none⟩)) rfl rfl rfl))
        have hcl : w'.cell? ⟨w.heap.size, 6, none⟩ = some (.slice (some ⟨b, off, none⟩) n hec) := (HB4.out.ext hx).cell 6
        simp only [Act.eval] at ex59
        have HK := Lib.hid (hk (.slice (some ⟨b, off, none⟩) n hec) rfl w' (Ext.refl _))
        clear hx hn hd hk
        go_simp
        exact HK.out
       | 5, ho =>
        simp only [List.getElem?_toArray, List.getElem?_cons_zero, List.getElem?_cons_succ, Option.some.injEq] at ho
        subst ho
        refine want_yes rfl rfl (hd 2 58 (.bool true) rfl rfl rfl) rfl ?_
        exact wp_move _ _ rfl ((hn 6 rfl).trans (show _ = Value.int .i64 (k : Int) from rfl)) (hk _ rfl w' (Ext.refl _))
       | 6, ho =>
        simp only [List.getElem?_toArray, List.getElem?_cons_zero, List.getElem?_cons_succ, Option.some.injEq] at ho
        subst ho
        refine want_yes rfl rfl (hd 2 58 (.bool true) rfl rfl rfl) rfl ?_
        exact wp_bin rfl (eval_of (hd 5 61 (.int .i64 (k : Int)) rfl rfl rfl)) rfl (by first | (go_simp; done) | (go_simp; rw [wrap_i64 (by omega) (by omega)]; done) | (go_simp; exact wrap_i64 (by omega) (by omega))) (hk _ rfl w' (Ext.refl _))
       | 7, ho =>
        simp only [List.getElem?_toArray, List.getElem?_cons_zero, List.getElem?_cons_succ, Option.some.injEq] at ho
        subst ho
        refine want_yes rfl rfl (hd 2 58 (.bool true) rfl rfl rfl) rfl ?_
        exact wp_ix_ev rfl (eval_of (hd 4 60 (.slice (some ⟨b, off, none⟩) n hec) rfl rfl rfl)) (eval_of (hd 6 62 (.int .i64 ((k - 1 : Nat) : Int)) rfl rfl rfl)) (by omega) (hk _ rfl w' (Ext.refl _))
       | 8, ho =>
        simp only [List.getElem?_toArray, List.getElem?_cons_zero, List.getElem?_cons_succ, Option.some.injEq] at ho
        subst ho
        refine want_yes rfl rfl (hd 2 58 (.bool true) rfl rfl rfl) rfl ?_
        exact wp_load_ev rfl b _ p A2 n2 c2 (eval_of (hd 7 63 (.pointer (some ⟨b, off + (k - 1) * 7, none⟩)) rfl rfl rfl)) (fun j u hu => hx.cell (HCp.out j u hu)) (hk _ rfl w' (Ext.refl _))
       | 9, ho =>
        simp only [List.getElem?_toArray, List.getElem?_cons_zero, List.getElem?_cons_succ, Option.some.injEq] at ho
        subst ho
        refine want_yes rfl rfl (hd 2 58 (.bool true) rfl rfl rfl) rfl ?_
        exact wp_loadB 60 (.tmp 7) rfl _ 60 _ _ ((hn 7 rfl).trans (show _ = Value.pointer (some ⟨wr.heap.size, 0, none⟩) from rfl)) (HC4.out.ext hx) Tryz.underlying60 rfl (by exact size_evt) (hk _ rfl w' (Ext.refl _))
       | 10, ho =>
        simp only [List.getElem?_toArray, List.getElem?_cons_zero, List.getElem?_cons_succ, Option.some.injEq] at ho
        subst ho
        refine want_yes rfl rfl (hd 2 58 (.bool true) rfl rfl rfl) rfl ?_
        exact wp_call2 rfl (eval_of (hd 8 64 (.agg #[.int .i64 p.id, .int .i64 p.inn, .int .i64 p.out, .string p.region, .int .u8 p.kind, .string p.speaker, .slice A2 n2 c2]) rfl rfl rfl)) (eval_of (hd 9 65 (.agg #[.int .i64 x.id, .int .i64 x.inn, .int .i64 x.out, .string x.region, .int .u8 x.kind, .string x.speaker, .slice A' n' c']) rfl rfl rfl)) Tryz.call39 ((HLess.out w')) (hk _ rfl)
       | 11, ho =>
        simp only [List.getElem?_toArray, List.getElem?_cons_zero, List.getElem?_cons_succ, Option.some.injEq] at ho
        subst ho
        refine want_yes rfl rfl (hd 2 58 (.bool true) rfl rfl rfl) rfl ?_
        exact wp_un rfl (eval_of (hd 10 66 (.bool true) rfl rfl rfl)) (by first | (go_simp; done) | (go_simp; simp)) (hk _ rfl w' (Ext.refl _))
       | 12, ho =>
        simp only [List.getElem?_toArray, List.getElem?_cons_zero, List.getElem?_cons_succ, Option.some.injEq] at ho
        subst ho
        refine want_none rfl ?_
        exact wp_pick _ _ _ true _ rfl (eval_of (hd 2 58 (.bool true) rfl rfl rfl)) (by exact (eval_of (hd 11 67 (.bool false) rfl rfl rfl))) (hk _ rfl w' (Ext.refl _))
       | 13, ho =>
        simp only [List.getElem?_toArray, List.getElem?_cons_zero, List.getElem?_cons_succ, Option.some.injEq] at ho
        subst ho
        refine want_none rfl ?_
        exact wp_assignx _ _ rfl (eval_of (hd 12 68 (.bool false) rfl rfl rfl)) (hk _ rfl w' (Ext.refl _))
       | i + 14, ho => simp at ho
     intro w9 hx9
     simp only [Act.put, List.foldl_cons, List.foldl_nil, List.setIfInBounds_toArray, List.set_cons_zero, List.set_cons_succ]
     go_wp2_with fail
     go_ret
     exact ⟨ret_int HRe.out.symm, HX4.out.trans hx9⟩
    case false =>
     have HNo := Lib.hid hfs
     rw [hfs] at hhas2
     clear hfs
     go_wp2_with (at_lookup; refine wpList_lookup_own_ok_int _ rfl _ _ 116 rfl 2 3 .i64 key64 Tryz.underlying116 Tryz.underlying3 (zero_int _) w2.heap.size nm Dm rfl (by exact HOw.out) _ _ rfl (by exact HKey.out) ?_; intro c0 hat hwc; have HAt0 := Lib.hid hat; clear hat hwc)
     refine wp_region_vals [.int .i64 (k : Int), .bool true, .bool true, .pointer (some ⟨w.heap.size, 6, none⟩), .slice (some ⟨b, off, none⟩) n hec, .int .i64 (k : Int), .int .i64 ((k - 1 : Nat) : Int), .pointer (some ⟨b, off + (k - 1) * 7, none⟩), .agg #[.int .i64 p.id, .int .i64 p.inn, .int .i64 p.out, .string p.region, .int .u8 p.kind, .string p.speaker, .slice A2 n2 c2], .agg #[.int .i64 x.id, .int .i64 x.inn, .int .i64 x.out, .string x.region, .int .u8 x.kind, .string x.speaker, .slice A' n' c'], .bool true, .bool false, .bool false, .bool false] [(56, .int .i64 (k : Int)), (57, .bool true), (58, .bool true), (59, .pointer (some ⟨w.heap.size, 6, none⟩)), (60, .slice (some ⟨b, off, none⟩) n hec), (61, .int .i64 (k : Int)), (62, .int .i64 ((k - 1 : Nat) : Int)), (63, .pointer (some ⟨b, off + (k - 1) * 7, none⟩)), (64, .agg #[.int .i64 p.id, .int .i64 p.inn, .int .i64 p.out, .string p.region, .int .u8 p.kind, .string p.speaker, .slice A2 n2 c2]), (65, .agg #[.int .i64 x.id, .int .i64 x.inn, .int .i64 x.out, .string x.region, .int .u8 x.kind, .string x.speaker, .slice A' n' c']), (66, .bool true), (67, .bool false), (68, .bool false), (55, .bool false)] (by kernel_rfl) (by kernel_rfl) (by kernel_rfl) rfl rfl ?_ ?_
     · intro i o ho a w' K' hx hn hd hk
       match i, ho with
       | 0, ho =>
        simp only [List.getElem?_toArray, List.getElem?_cons_zero, List.getElem?_cons_succ, Option.some.injEq] at ho
        subst ho
        refine want_none rfl ?_
        exact wp_move _ _ rfl ((hn 6 rfl).trans (show _ = Value.int .i64 (k : Int) from rfl)) (hk _ rfl w' (Ext.refl _))
       | 1, ho =>
        simp only [List.getElem?_toArray, List.getElem?_cons_zero, List.getElem?_cons_succ, Option.some.injEq] at ho
        subst ho
        refine want_none rfl ?_
        exact wp_bin rfl (eval_of (hd 0 56 (.int .i64 (k : Int)) rfl rfl rfl)) rfl (by first | (go_simp; done) | (go_simp; simp; omega) | (simp; omega)) (hk _ rfl w' (Ext.refl _))
       | 2, ho =>
        simp only [List.getElem?_toArray, List.getElem?_cons_zero, List.getElem?_cons_succ, Option.some.injEq] at ho
        subst ho
        refine want_none rfl ?_
        exact wp_move _ _ rfl (eval_of (hd 1 57 (.bool true) rfl rfl rfl)) (hk _ rfl w' (Ext.refl _))
       | 3, ho =>
        simp only [List.getElem?_toArray, List.getElem?_cons_zero, List.getElem?_cons_succ, Option.some.injEq] at ho
        subst ho
        refine want_yes rfl rfl (hd 2 58 (.bool true) rfl rfl rfl) rfl ?_
        have ex1 := ((hn 1 rfl).trans (show _ = Value.pointer (some ⟨w.heap.size, 0, none⟩) from rfl))
        simp only [Act.eval] at ex1
        have HK := Lib.hid (hk (.pointer (some ⟨w.heap.size, 6, none⟩)) rfl w' (Ext.refl _))
        clear hx hn hd hk
        go_simp
        exact HK.out
       | 4, ho =>
        simp only [List.getElem?_toArray, List.getElem?_cons_zero, List.getElem?_cons_succ, Option.some.injEq] at ho
        subst ho
        refine want_yes rfl rfl (hd 2 58 (.bool true) rfl rfl rfl) rfl ?_
        have ex59 := (eval_of (hd 3 59 (.pointer (some ⟨w.heap.size, 6, none⟩)) rfl rfl rfl))
        have hcl : w'.cell? ⟨w.heap.size, 6, none⟩ = some (.slice (some ⟨b, off, none⟩) n hec) := (HB4.out.ext hx).cell 6
        simp only [Act.eval] at ex59
        have HK := Lib.hid (hk (.slice (some ⟨b, off, none⟩) n hec) rfl w' (Ext.refl _))
        clear hx hn hd hk
        go_simp
        exact HK.out
       | 5, ho =>
        simp only [List.getElem?_toArray, List.getElem?_cons_zero, List.getElem?_cons_succ, Option.some.injEq] at ho
        subst ho
        refine want_yes rfl rfl (hd 2 58 (.bool true) rfl rfl rfl) rfl ?_
        exact wp_move _ _ rfl ((hn 6 rfl).trans (show _ = Value.int .i64 (k : Int) from rfl)) (hk _ rfl w' (Ext.refl _))
       | 6, ho =>
        simp only [List.getElem?_toArray, List.getElem?_cons_zero, List.getElem?_cons_succ, Option.some.injEq] at ho
        subst ho
        refine want_yes rfl rfl (hd 2 58 (.bool true) rfl rfl rfl) rfl ?_
        exact wp_bin rfl (eval_of (hd 5 61 (.int .i64 (k : Int)) rfl rfl rfl)) rfl (by first | (go_simp; done) | (go_simp; rw [wrap_i64 (by omega) (by omega)]; done) | (go_simp; exact wrap_i64 (by omega) (by omega))) (hk _ rfl w' (Ext.refl _))
       | 7, ho =>
        simp only [List.getElem?_toArray, List.getElem?_cons_zero, List.getElem?_cons_succ, Option.some.injEq] at ho
        subst ho
        refine want_yes rfl rfl (hd 2 58 (.bool true) rfl rfl rfl) rfl ?_
        exact wp_ix_ev rfl (eval_of (hd 4 60 (.slice (some ⟨b, off, none⟩) n hec) rfl rfl rfl)) (eval_of (hd 6 62 (.int .i64 ((k - 1 : Nat) : Int)) rfl rfl rfl)) (by omega) (hk _ rfl w' (Ext.refl _))
       | 8, ho =>
        simp only [List.getElem?_toArray, List.getElem?_cons_zero, List.getElem?_cons_succ, Option.some.injEq] at ho
        subst ho
        refine want_yes rfl rfl (hd 2 58 (.bool true) rfl rfl rfl) rfl ?_
        exact wp_load_ev rfl b _ p A2 n2 c2 (eval_of (hd 7 63 (.pointer (some ⟨b, off + (k - 1) * 7, none⟩)) rfl rfl rfl)) (fun j u hu => hx.cell (HCp.out j u hu)) (hk _ rfl w' (Ext.refl _))
       | 9, ho =>
        simp only [List.getElem?_toArray, List.getElem?_cons_zero, List.getElem?_cons_succ, Option.some.injEq] at ho
        subst ho
        refine want_yes rfl rfl (hd 2 58 (.bool true) rfl rfl rfl) rfl ?_
        exact wp_loadB 60 (.tmp 7) rfl _ 60 _ _ ((hn 7 rfl).trans (show _ = Value.pointer (some ⟨wr.heap.size, 0, none⟩) from rfl)) (HC4.out.ext hx) Tryz.underlying60 rfl (by exact size_evt) (hk _ rfl w' (Ext.refl _))
       | 10, ho =>
        simp only [List.getElem?_toArray, List.getElem?_cons_zero, List.getElem?_cons_succ, Option.some.injEq] at ho
        subst ho
        refine want_yes rfl rfl (hd 2 58 (.bool true) rfl rfl rfl) rfl ?_
        exact wp_call2 rfl (eval_of (hd 8 64 (.agg #[.int .i64 p.id, .int .i64 p.inn, .int .i64 p.out, .string p.region, .int .u8 p.kind, .string p.speaker, .slice A2 n2 c2]) rfl rfl rfl)) (eval_of (hd 9 65 (.agg #[.int .i64 x.id, .int .i64 x.inn, .int .i64 x.out, .string x.region, .int .u8 x.kind, .string x.speaker, .slice A' n' c']) rfl rfl rfl)) Tryz.call39 ((HLess.out w')) (hk _ rfl)
       | 11, ho =>
        simp only [List.getElem?_toArray, List.getElem?_cons_zero, List.getElem?_cons_succ, Option.some.injEq] at ho
        subst ho
        refine want_yes rfl rfl (hd 2 58 (.bool true) rfl rfl rfl) rfl ?_
        exact wp_un rfl (eval_of (hd 10 66 (.bool true) rfl rfl rfl)) (by first | (go_simp; done) | (go_simp; simp)) (hk _ rfl w' (Ext.refl _))
       | 12, ho =>
        simp only [List.getElem?_toArray, List.getElem?_cons_zero, List.getElem?_cons_succ, Option.some.injEq] at ho
        subst ho
        refine want_none rfl ?_
        exact wp_pick _ _ _ true _ rfl (eval_of (hd 2 58 (.bool true) rfl rfl rfl)) (by exact (eval_of (hd 11 67 (.bool false) rfl rfl rfl))) (hk _ rfl w' (Ext.refl _))
       | 13, ho =>
        simp only [List.getElem?_toArray, List.getElem?_cons_zero, List.getElem?_cons_succ, Option.some.injEq] at ho
        subst ho
        refine want_none rfl ?_
        exact wp_assignx _ _ rfl (eval_of (hd 12 68 (.bool false) rfl rfl rfl)) (hk _ rfl w' (Ext.refl _))
       | i + 14, ho => simp at ho
     intro w9 hx9
     simp only [Act.put, List.foldl_cons, List.foldl_nil, List.setIfInBounds_toArray, List.set_cons_zero, List.set_cons_succ]
     have HX9 := Lib.hid (HX4.out.trans hx9)
     have HX9r := Lib.hid (HX4r.out.trans hx9)
     have HO9 := Lib.hid (own_mext HOw.out hx9)
     have HC9 := Lib.hid (HC4.out.ext hx9)
     clear hx9 hb4 hc4
     have hc9 := fun o => HC9.out.cell o
     go_wp2_with (at_mapUpdate; refine wpList_mapUpdate_in _ rfl _ _ _ 116 rfl 2 3 key64 Tryz.underlying116 (plainElem Tryz.prog 3) w2.heap.size nm Dm rfl (by exact HO9.out) hnl _ _ (.int .i64 x.id) rfl rfl (by exact HKey.out) (.lit (.int .i64 (k : Int))) [] (plainElem_int Tryz.underlying3 (IW.wf ⟨by omega, by omega⟩)) ?_; intro w10 hown1 hturn1)
     exact ⟨⟨k + 1, by omega, by go_num, turned_ext hturn1 (hx.trans HX9r.out) (Nat.le_refl _), by rw [HTk.out]; exact MapE.put (w := w) HNm.out HOm.out HHs.out HAk.out HIw.out (by cases hz : findE (d.evs.take k) x.id with | none => rfl | some y => rw [hz] at HNo; exact absurd HNo.out (by simp)) (by rw [HTl.out]; exact hown1), HS.out.2 (E5.out _ HEr.out (by have := HLa.out; omega) HPn.out HNo.out)⟩, by simp [intOf]; omega⟩
  · have hkn : k = n := by omega
    subst hkn
    have htk : d.evs.take k = d.evs := List.take_of_length_le (by have := HEl.out; omega)
    rw [htk] at hM hP
    have HZ := Lib.hid (hP.trans (by rw [List.drop_eq_nil_of_le (by have := HEl.out; omega)]; rfl) : evsLoop d.regs d.last [] d.evs = 0)
    have HM := Lib.hid hM
    clear hP hM htk
    go_wp2_with (refine wpList_loadB rfl 27 (.tmp 1) rfl w.heap.size 27 _ _ (by exact rfl) (by exact HBr.out) Tryz.underlying27 rfl (by exact size_doc) ?_)
    refine (HCm.out _ _ HXr.out HM.out).mono ?_
    rintro en w3 ⟨rfl, hx3⟩
    go_wp2_with fail
    go_ret
    exact ⟨ret_int (D5.out HH.out HR.out H4.out HZ.out).symm, HXr.out.trans hx3⟩
end
section
open Go.RowKit
theorem doc_ok {d : Doc} (h : d.err = 0) : d.headErr = 0 ∧ regsErr d.regs = 0 ∧ d.evs.length ≤ 400 ∧ evsLoop d.regs d.last [] d.evs = 0 ∧ d.coms.length ≤ 64 ∧ comsLoop d.last d.evs none d.coms = 0 := by
 unfold Doc.err at h
 split at h
 · rename_i h1; exact absurd h h1
 · rename_i h1
   split at h
   · rename_i h2; exact absurd h h2
   · rename_i h2
     split at h
     · simp at h
     · rename_i h3
       split at h
       · rename_i h4; exact absurd h h4
       · rename_i h4
         split at h
         · simp at h
         · rename_i h5
           exact ⟨by simpa using h1, by simpa using h2, by omega, by simpa using h4, by omega, h⟩
theorem head_ok' {d : Doc} (h : d.headErr = 0) : vld d.title = true ∧ d.title.size ≤ 400 ∧ ¬ (d.lang.toList.isEmpty = false ∧ nameB d.lang = false) ∧ rateOkB d.rate d.drop = true ∧ 0 ≤ d.last ∧ d.last ≤ 1099511627776 := by
 unfold Doc.headErr at h
 split at h
 · simp at h
 · rename_i h1
   split at h
   · simp at h
   · rename_i h2
     split at h
     · simp at h
     · rename_i h3
       split at h
       · simp at h
       · rename_i h4
         split at h
         · simp at h
         · rename_i h5
           exact ⟨by simpa using h1, by omega, h3, by simpa using h4, by omega, by omega⟩
theorem evs_ok {regs : List Reg} {last : Int} : ∀ {l pre : List Ev}, evsLoop regs last pre l = 0 → ∀ (k : Nat) (x : Ev), l[k]? = some x →
 x.err regs = 0 ∧ x.id ≤ last ∧ ¬ (((pre ++ l.take k).getLast?.map fun p => lessB p x) = some false) ∧ findE (pre ++ l.take k) x.id = none
 | [], pre, _, k, x, hx => by simp at hx
 | y :: l, pre, h, 0, x, hx => by
  simp at hx; subst hx
  rw [evs_cons] at h
  split at h
  · rename_i h1; exact absurd h h1
  · rename_i h1
    have h1' : evErr regs last pre y = 0 := by simpa using h1
    unfold evErr at h1'
    split at h1'
    · rename_i h2; exact absurd h1' h2
    · rename_i h2
      split at h1'
      · simp at h1'
      · rename_i h3
        split at h1'
        · simp at h1'
        · rename_i h4
          split at h1'
          · simp at h1'
          · rename_i h5
            refine ⟨by simpa using h2, by omega, by simpa using h4, ?_⟩
            simp only [List.take_zero, List.append_nil]
            cases hf : findE pre y.id with
            | none => rfl
            | some j => rw [hf] at h5; simp at h5
 | y :: l, pre, h, k + 1, x, hx => by
  rw [evs_cons] at h
  split at h
  · rename_i h1; exact absurd h h1
  · have := evs_ok h k x (by simpa using hx)
    simpa using this
end
section
open Go.RowKit
def RCloneRel (w : World) (rows : List Row) (n : Nat) (v i : Value) (wr : World) : Prop :=
 ∃ (k : Nat) (hs : List Hd), k ≤ n ∧ i = .int .i64 k ∧ hs.length = k ∧ wr.ownsRow w.heap.size 78 1 v k (hs.flatMap fun h => [Hd.val h]) ∧ Ext w wr ∧ Goods wr hs (rows.take k) ∧
  (∀ g, v.ownBlock = some g → ∀ h ∈ hs, Apart g h) ∧ (∀ h ∈ hs, Fresh wr 83 w.heap.size h.1)
theorem Good.grown {w w1 : World} {h : Hd} {r : Row} {row : Option Nat} (g : Good w h r) (hg : w.grownBy w1 row) (hp : ∀ q, row = some q → Apart q h) : Good w1 h r :=
 ⟨g.1, g.2.1, Sl.keep g.2.2 fun hn b off hA o x hx => by
  have hb : b < w.heap.size := World.block_lt_of_cell? w _ hx.1
  have key : ∀ q v, w.cell? ⟨b, q, none⟩ = some v → w1.cell? ⟨b, q, none⟩ = some v := fun q v hv =>
   (World.cell?_of_block (w := w) (a := ⟨b, q, none⟩) (hg.block b hb (fun e => hp b e.symm hn _ hA rfl))).trans hv
  exact ⟨key _ _ hx.1, key _ _ hx.2.1, key _ _ hx.2.2.1, key _ _ hx.2.2.2.1, key _ _ hx.2.2.2.2⟩⟩
end
section
open Go.RowKit
theorem RowsFresh.put {w : World} {L : Nat} {A : Option Addr} {n : Nat} {l : List Row} (h : RowsFresh w L A n l) {g : Nat} {t : TypeId} {cs : Array Value} (hB : Blk w g t cs) (cs' : Array Value) (h1 : 78 ≠ t) (h2 : 83 ≠ t) : RowsFresh (putB w g t cs') L A n l := by
 obtain ⟨hs, a1, a2, a3, a4, a5⟩ := h
 refine ⟨hs, Sl.keep a1 fun _ b off hA o x hx j u hu => ?_, fun i hd r a b => ?_, a3, a4.put hB cs' h1, fun x hx => (a5 x hx).put hB cs' h2⟩
 · have hb : b ≠ g := Typed.ne (a4 _ hA).2 hB.typed h1
   rw [putB_cell_other (p := ⟨b, o + j, none⟩) hb]; exact hx j u hu
 · have gd := a2 i hd r a b
   refine ⟨gd.1, gd.2.1, Sl.keep gd.2.2 fun _ b' off hA o x hx => ?_⟩
   have hb : b' ≠ g := Typed.ne (a5 hd (List.mem_of_getElem? a) _ hA).2 hB.typed h2
   have key : ∀ q v, w.cell? ⟨b', q, none⟩ = some v → (putB w g t cs').cell? ⟨b', q, none⟩ = some v := fun q v hv => by rw [putB_cell_other (p := ⟨b', q, none⟩) hb]; exact hv
   exact ⟨key _ _ hx.1, key _ _ hx.2.1, key _ _ hx.2.2.1, key _ _ hx.2.2.2.1, key _ _ hx.2.2.2.2⟩
theorem own_put {w : World} {L : Nat} {e : TypeId} {size : Nat} {v : Value} {n : Nat} {xs : List Value} (h : w.ownsRow L e size v n xs) {g : Nat} {t : TypeId} {cs : Array Value} (hB : Blk w g t cs) (cs' : Array Value) (hne : e ≠ t) : (putB w g t cs').ownsRow L e size v n xs := by
 have ht := own_typed h
 refine ⟨h.1, ?_⟩
 rcases h.2 with hn | ⟨g', cap, cur, rfl, hb, hg, rest⟩
 · exact .inl hn
 · refine .inr ⟨g', cap, cur, rfl, hb, ?_, rest⟩
   have : g ≠ g' := fun e => Typed.ne (ht g' rfl) hB.typed hne e.symm
   unfold putB
   simp only
   rw [Array.getElem?_setIfInBounds_ne this]
   exact hg
theorem RowsOwn.put {w : World} {L : Nat} {A : Option Addr} {n c : Nat} {l : List Row} (h : RowsOwn w L A n c l) {g : Nat} {t : TypeId} {cs : Array Value} (hB : Blk w g t cs) (cs' : Array Value) (h1 : 78 ≠ t) (h2 : 83 ≠ t) : RowsOwn (putB w g t cs') L A n c l := by
 obtain ⟨hs, a1, a2, a3, a4, a5⟩ := h
 refine ⟨hs, own_put a1 hB cs' h1, a2, fun i hd r a b => ?_, a4, fun x hx => (a5 x hx).put hB cs' h2⟩
 have gd := a3 i hd r a b
 refine ⟨gd.1, gd.2.1, Sl.keep gd.2.2 fun _ b' off hA o x hx => ?_⟩
 have hb : b' ≠ g := Typed.ne (a5 hd (List.mem_of_getElem? a) _ hA).2 hB.typed h2
 have key : ∀ q v, w.cell? ⟨b', q, none⟩ = some v → (putB w g t cs').cell? ⟨b', q, none⟩ = some v := fun q v hv => by rw [putB_cell_other (p := ⟨b', q, none⟩) hb]; exact hv
 exact ⟨key _ _ hx.1, key _ _ hx.2.1, key _ _ hx.2.2.1, key _ _ hx.2.2.2.1, key _ _ hx.2.2.2.2⟩
def evZero : Array Value := #[.int .i64 0, .int .i64 0, .int .i64 0, .string ⟨#[]⟩, .int .u8 0, .string ⟨#[]⟩, .slice none 0 0]
def EClPost (e : Ev) (n : Nat) (w : World) (en : Ending) (w' : World) : Prop :=
 ∃ A c, en = .returned (.agg (e.cells A n c)) ∧ n ≤ c ∧ RowsFresh w' w.heap.size A n e.rows ∧ Ext w w'
def EOwnPost (e : Ev) (n : Nat) (w : World) (en : Ending) (w' : World) : Prop :=
 ∃ A c, en = .returned (.agg (e.cells A n c)) ∧ n ≤ c ∧ RowsOwn w' w.heap.size A n c e.rows ∧ Ext w w'
end
section
open Go.RowKit
def C2Inv (mk : Value → Value → Value → Value → Value → Value → Act) (e : Ev) (A : Option Addr) (n c : Nat) (W : World) (l : Array Bool) (a : Act) (w : World) : Prop :=
 l.size = 8 ∧ Ext W w ∧ ∃ v1 v2 v3 v4 va vb : Value, a = mk v1 v2 v3 v4 va vb ∧ (l.getD 0 false = true → v1 = .agg (e.cells A n c)) ∧ (l.getD 2 false = true → v3 = .agg (e.cells A n c)) ∧
  (l.getD 1 false = true → ∃ A1 c1, v2 = .agg (e.cells A1 n c1) ∧ n ≤ c1 ∧ RowsFresh w W.heap.size A1 n e.rows) ∧ (l.getD 3 false = true → ∃ A1 c1, v4 = .agg (e.cells A1 n c1) ∧ n ≤ c1 ∧ RowsFresh w W.heap.size A1 n e.rows) ∧
  (l.getD 4 false = true → ∃ g cs, va = .pointer (some ⟨g, 0, none⟩) ∧ W.heap.size ≤ g ∧ Blk w g 60 cs ∧ cs.size = 7 ∧ (l.getD 6 false = true → v2 = .agg cs)) ∧
  (l.getD 5 false = true → ∃ g cs, vb = .pointer (some ⟨g, 0, none⟩) ∧ W.heap.size ≤ g ∧ Blk w g 60 cs ∧ cs.size = 7 ∧ (l.getD 7 false = true → v4 = .agg cs)) ∧
  (l.getD 4 false = true → l.getD 5 false = true → va ≠ vb) ∧ (l.getD 6 false = true → l.getD 1 false = true) ∧ (l.getD 7 false = true → l.getD 3 false = true) ∧ (l.getD 6 false = true → l.getD 4 false = true) ∧ (l.getD 7 false = true → l.getD 5 false = true)
def put6 (a : Act) (x1 x2 x3 x4 sa sb : Nat) (v1 v2 v3 v4 va vb : Value) : Act :=
 { a with tmps := (((((a.tmps.setIfInBounds x1 v1).setIfInBounds x2 v2).setIfInBounds x3 v3).setIfInBounds x4 v4).setIfInBounds sa va).setIfInBounds sb vb }
end
section
open Go.RowKit
def Ev.splitErr (e : Ev) (frame : Int) (row : Int) (id : Int) : Int :=
 if row < 1 ∨ (e.rows.length : Int) ≤ row then 1
 else if frame ≤ e.inn ∨ e.out ≤ frame ∨ id < 1 ∨ 1099511627776 < id then 2
 else if id = e.id then 7 else 0
def Ev.left (e : Ev) (frame : Int) (row : Nat) : Ev := { e with out := frame, rows := e.rows.take row }
def Ev.right (e : Ev) (frame : Int) (row : Nat) (id : Int) : Ev := { e with id := id, inn := frame, rows := e.rows.drop row }
def Ev.zero : Ev := ⟨0, 0, 0, ⟨#[]⟩, 0, ⟨#[]⟩, []⟩
def Ev.splitL (e : Ev) (frame row id : Int) : Ev := if e.splitErr frame row id = 0 then e.left frame row.toNat else Ev.zero
def Ev.splitR (e : Ev) (frame row id : Int) : Ev := if e.splitErr frame row id = 0 then e.right frame row.toNat id else Ev.zero
def SplitPost (e : Ev) (frame row id : Int) (w : World) (en : Ending) (w' : World) : Prop :=
 ∃ A1 n1 c1 A2 n2 c2, en = .returned (.tuple #[.agg ((e.splitL frame row id).cells A1 n1 c1), .agg ((e.splitR frame row id).cells A2 n2 c2), .int .i64 (e.splitErr frame row id)]) ∧
  n1 ≤ c1 ∧ n2 ≤ c2 ∧ n1 ≤ e.rows.length ∧ n2 ≤ e.rows.length ∧ RowsFresh w' w.heap.size A1 n1 (e.splitL frame row id).rows ∧ RowsFresh w' w.heap.size A2 n2 (e.splitR frame row id).rows ∧ Ext w w'
theorem RowsFresh.nil (w : World) (L c : Nat) : RowsFresh w L none 0 [] := ⟨[], Sl.nil, fun i h r a b => by simp at a, rfl, fun ad h => (by cases h), fun x hx => (by cases hx)⟩
def SplitErrs (k : Int) (w : World) (en : Ending) (w' : World) : Prop := en = .returned (.tuple #[.agg evZero, .agg evZero, .int .i64 k]) ∧ Ext w w'
theorem SplitErrs.post {e : Ev} {frame row id : Int} {w : World} {en : Ending} {w' : World} (h : SplitErrs (e.splitErr frame row id) w en w') (hk : e.splitErr frame row id ≠ 0) : SplitPost e frame row id w en w' := by
 have e1 : e.splitL frame row id = Ev.zero := if_neg hk
 have e2 : e.splitR frame row id = Ev.zero := if_neg hk
 refine ⟨none, 0, 0, none, 0, 0, ?_, Nat.le_refl _, Nat.le_refl _, Nat.zero_le _, Nat.zero_le _, ?_, ?_, h.2⟩
 · rw [e1, e2]; exact h.1
 · rw [e1]; exact RowsFresh.nil _ _ 0
 · rw [e2]; exact RowsFresh.nil _ _ 0
inductive SplitBad (e : Ev) (frame row id : Int) : Int → Prop
 | low : (row < 1) → SplitBad e frame row id 1
 | high : 1 ≤ row → (e.rows.length : Int) ≤ row → SplitBad e frame row id 1
 | ahead : 1 ≤ row → row < e.rows.length → frame ≤ e.inn → SplitBad e frame row id 2
 | behind : 1 ≤ row → row < e.rows.length → e.inn < frame → e.out ≤ frame → SplitBad e frame row id 2
 | idLow : 1 ≤ row → row < e.rows.length → e.inn < frame → frame < e.out → id < 1 → SplitBad e frame row id 2
 | idHigh : 1 ≤ row → row < e.rows.length → e.inn < frame → frame < e.out → 1 ≤ id → 1099511627776 < id → SplitBad e frame row id 2
 | same : 1 ≤ row → row < e.rows.length → e.inn < frame → frame < e.out → 1 ≤ id → id ≤ 1099511627776 → id = e.id → SplitBad e frame row id 7
end
section
open Go.RowKit
def Ev.joinErr (x y : Ev) : Int := if lessB x y = false then 8 else if 4 < x.rows.length + y.rows.length then 9 else 0
def Ev.joined (x y : Ev) : Ev := { x with inn := min x.inn y.inn, out := max x.out y.out, rows := x.rows ++ y.rows }
def Ev.join (x y : Ev) : Ev := if x.joinErr y = 0 then x.joined y else Ev.zero
def JoinPost (x y : Ev) (w : World) (en : Ending) (w' : World) : Prop :=
 ∃ A n c, en = .returned (.tuple #[.agg ((x.join y).cells A n c), .int .i64 (x.joinErr y)]) ∧ n ≤ c ∧ n ≤ 4 ∧ RowsFresh w' w.heap.size A n (x.join y).rows ∧ Ext w w'
theorem Blk.grown {w w1 : World} {g : Nat} {t T : TypeId} {cs : Array Value} {row : Option Nat} (h : Blk w g t cs) (hg : w.grownBy w1 row) (hr : ∀ q, row = some q → Typed w T q) (hne : t ≠ T) : Blk w1 g t cs := by
 refine (hg.block g h.lt (fun e => ?_)).trans h
 exact Typed.ne h.typed (hr g e.symm) hne rfl
end
section
open Go.RowKit
theorem lensErr_zero {r : Reg} : ∀ {l : List Int}, r.lensErr l = 0 → ∀ x ∈ l, 0 ≤ x ∧ x ≤ r.width
 | [], _, x, hx => by cases hx
 | n :: l, h, x, hx => by
  unfold Reg.lensErr at h
  split at h
  · omega
  · split at h
    · omega
    · rcases List.mem_cons.1 hx with rfl | hx
      · omega
      · exact lensErr_zero h x hx
theorem rowsErr_zero : ∀ {l : List Row}, rowsErr l = 0 → ∀ r ∈ l, rowErrE r = 0
 | [], _, r, hr => by cases hr
 | x :: l, h, r, hr => by
  unfold rowsErr at h
  split at h
  · rename_i hx
    rcases List.mem_cons.1 hr with rfl | hr
    · exact hx
    · exact rowsErr_zero h r hr
  · rename_i hx; exact absurd h hx
structure Ev.Ok (e : Ev) (regs : List Reg) : Prop where
 id1 : 1 ≤ e.id
 id2 : e.id ≤ 1099511627776
 span : spansB e.inn e.out = true
 found : ∃ r, findR regs e.region = some r ∧ r.usable = true ∧ (e.rows.length : Int) ≤ r.height ∧ ∀ x ∈ e.rows, 0 ≤ rowLen x ∧ rowLen x ≤ r.width
 kind : noKind e.kind = false
 name : ¬ (e.speaker.toList.isEmpty = false ∧ nameB e.speaker = false)
 some_ : e.rows.length ≠ 0
 few : e.rows.length ≤ 4
 rows : ∀ r ∈ e.rows, rowErrE r = 0
theorem Ev.ok_of {e : Ev} {regs : List Reg} (h : e.err regs = 0) : e.Ok regs := by
 unfold Ev.err at h
 split at h
 · omega
 · rename_i h1
   split at h
   · omega
   · rename_i r hr
     split at h
     · omega
     · rename_i h2
       split at h
       · omega
       · rename_i h3
         split at h
         · omega
         · rename_i h4
           split at h
           · rename_i h5; exact absurd h h5
           · rename_i h5
             unfold Reg.place at h
             split at h
             · omega
             · rename_i h6
               split at h
               · omega
               · rename_i h7
                 have hz := lensErr_zero h
                 refine ⟨by omega, by omega, by cases hs : spansB e.inn e.out <;> simp_all, ⟨r, hr, by simpa using h6, by simpa using h7, fun x hx => hz _ (List.mem_map.2 ⟨x, hx, rfl⟩)⟩, by simpa using h2, h3, by omega, by omega, rowsErr_zero (by simpa using h5)⟩
theorem Ev.Ok.part {e f : Ev} {regs : List Reg} (h : e.Ok regs) (h1 : 1 ≤ f.id) (h2 : f.id ≤ 1099511627776) (h3 : spansB f.inn f.out = true) (hr : f.region = e.region) (hk : f.kind = e.kind) (hs : f.speaker = e.speaker) (hl : f.rows.length ≠ 0) (hle : f.rows.length ≤ e.rows.length) (hsub : ∀ r ∈ f.rows, r ∈ e.rows) : f.Ok regs := by
 obtain ⟨_, _, _, ⟨r, hr', hu, hh, hw⟩, h4, h5, h6, h7, h8⟩ := h
 exact ⟨h1, h2, h3, ⟨r, by rw [hr]; exact hr', hu, by omega, fun x hx => hw x (hsub x hx)⟩, by rw [hk]; exact h4, by rw [hs]; exact h5, hl, by omega, fun x hx => h8 x (hsub x hx)⟩
theorem lenSum_of : ∀ {l : List Int} (s : Int), (∀ x ∈ l, 0 ≤ x) → lenSum s l = s + l.sum
 | [], s, _ => by simp [lenSum]
 | n :: l, s, h => by
  have h1 := h n (List.mem_cons_self ..)
  unfold lenSum
  rw [if_neg (by omega), lenSum_of (s + n) fun x hx => h x (List.mem_cons_of_mem _ hx), List.sum_cons]
  omega
theorem Ev.Ok.len {e : Ev} {regs : List Reg} (h : e.Ok regs) : e.len = (e.rows.length : Int) - 1 + (e.rows.map rowLen).sum := by
 obtain ⟨_, _, _, hw⟩ := h.found
 unfold Ev.len
 rw [lenSum_of _ (fun x hx => by obtain ⟨y, hy, rfl⟩ := List.mem_map.1 hx; exact (hw.2 y hy).1)]
 have := h.some_
 omega
theorem Ev.Ok.frames {e : Ev} {regs : List Reg} (h : e.Ok regs) : e.frames = e.out - e.inn := by unfold Ev.frames; rw [if_pos h.span]
end
end Go.Proofs.YtbmblnhfmpolbaaGreatDoor