/- Texts laid together. -/
import Derived.Test.YtablhmobekmflaaGreatDoorCk15
import Derived.Test.YtablhmobekmflaaGreatDoorCk10
import Derived.Test.YtablhmobekmflaaGreatDoorCk01
import Derived.Test.YtablhmobekmflaaGreatDoorCk02
import Derived.Test.YtablhmobekmflaaGreatDoorCk06
import Derived.Test.YtablhmobekmflaaGreatDoorCk07
import Derived.Test.YtablhmobekmflaaGreatDoorCk09
set_option linter.unusedVariables false
set_option linter.unusedSimpArgs false
namespace Go.Proofs.YtablhmobekmflaaGreatDoor
section
open Go.RowKit
def CcRel (w : World) (n : Nat) (rate : Int) (drop : Bool) (l : List RDoc) (i : Value) (wr : World) : Prop := ∃ k : Nat, k ≤ n ∧ i = .int .i64 k ∧ Ext w wr ∧ rdLoop rate drop none l = rdLoop rate drop (prevR l k) (l.drop k)
def AdRel (w : World) (m : List Reg) (i : Value) (wr : World) : Prop := ∃ k : Nat, (k < m.length ∨ k = 0) ∧ i = .int .i64 ((k : Int) + 1) ∧ Ext w wr ∧ adjB m = adjB (m.drop k)
theorem regsErr_len {l : List Reg} (h : regsErr l = 0) : l.length ≤ 16 := by
 unfold regsErr at h
 split at h
 · omega
 · omega
theorem rd_1 {rate : Int} {drop : Bool} {p : Option ByteArray} {d : RDoc} (h : nameB d.reel = false) : rdNext rate drop p d = 5 := by unfold rdNext; rw [if_pos h]
theorem rd_2 {rate : Int} {drop : Bool} {p : Option ByteArray} {d : RDoc} (h : nameB d.reel = true) (h2 : (p.map fun q => Op.bytesLess d.reel.toList q.toList || d.reel.toList == q.toList) = some true) : rdNext rate drop p d = 8 := by unfold rdNext; rw [if_neg (by simp [h]), if_pos h2]
theorem rd_3 {rate : Int} {drop : Bool} {p : Option ByteArray} {d : RDoc} (h : nameB d.reel = true) (h2 : ¬ (p.map fun q => Op.bytesLess d.reel.toList q.toList || d.reel.toList == q.toList) = some true) (h3 : d.doc.err ≠ 0) : rdNext rate drop p d = d.doc.err := by unfold rdNext; rw [if_neg (by simp [h]), if_neg h2, if_pos h3]
theorem rd_4 {rate : Int} {drop : Bool} {p : Option ByteArray} {d : RDoc} (h : nameB d.reel = true) (h2 : ¬ (p.map fun q => Op.bytesLess d.reel.toList q.toList || d.reel.toList == q.toList) = some true) (h3 : d.doc.err = 0) (h4 : ¬ (d.doc.rate = rate ∧ d.doc.drop = drop)) : rdNext rate drop p d = 13 := by unfold rdNext; rw [if_neg (by simp [h]), if_neg h2, if_neg (by simpa using h3), if_pos h4]
theorem rd_5 {rate : Int} {drop : Bool} {p : Option ByteArray} {d : RDoc} (h : nameB d.reel = true) (h2 : ¬ (p.map fun q => Op.bytesLess d.reel.toList q.toList || d.reel.toList == q.toList) = some true) (h3 : d.doc.err = 0) (h4 : d.doc.rate = rate ∧ d.doc.drop = drop) : rdNext rate drop p d = 0 := by unfold rdNext; rw [if_neg (by simp [h]), if_neg h2, if_neg (by simpa using h3), if_neg (fun k => k h4)]
theorem adj_cons2 {m : List Reg} {k : Nat} {x y : Reg} (hx : m[k]? = some x) (hy : m[k + 1]? = some y) : adjB (m.drop k) = (decide (nmR y = nmR x) || adjB (m.drop (k + 1))) := by
 rw [drop_at m k x hx, drop_at m (k + 1) y hy]
 rfl
theorem adj_last {m : List Reg} {k : Nat} (h : m.length ≤ k + 1) : adjB (m.drop k) = false := by
 have hl : (m.drop k).length ≤ 1 := by rw [List.length_drop]; omega
 match hm : m.drop k, hl with
 | [], _ => rfl
 | [_], _ => rfl
set_option maxRecDepth 100000 in
set_option maxHeartbeats 16000000 in
theorem ConCheck_any (docs : List RDoc) (A : Option Addr) (n c : Nat) (e : Edl) (B : Option Addr) (m d : Nat) (w : World) (hE : Env w) (hl : RDocsAt w A n docs) (he : CutsAt w B m e.cuts) (hm : m ≤ 1000000) (hok : EdlOk e) (hn : n ≤ 1000000) (hf : RDocsFit docs) :
 Calls Tryz.prog 24 #[.slice A n c, .agg (e.cells B m d)] w fun en w' => en = .returned (.int .i64 (conErr docs e)) ∧ Ext w w' := by
 have HL := Lib.hid hl
 have HLn := Lib.hid hl.len
 have HEnv := Lib.hid hE
 have HFit := Lib.hid hf
 have HX := Lib.hid ((Ext.refl w).alloc (.cells (e.cells B m d) 28))
 have HB0 := Lib.hid (Blk.new w 28 (e.cells B m d))
 have HCk := Lib.hid (fun w' (hx : Ext w w') => Check_any e B m d w' (hE.ext hx) (he.ext hx) hm hok.r0 hok.r1 hok.title hok.fits)
 have HRg := Lib.hid (fun w' (hx : Ext w w') (h16 : n ≤ 16) (hr : ∀ d ∈ docs, d.doc.regs.length ≤ 16) => Regions_any A n c docs w' (hl.ext hx) h16 hr)
 have HF : Hid (conErr docs e = if edlErr e ≠ 0 then edlErr e else if 16 < docs.length then 9 else if rdLoop e.rate e.drop none docs ≠ 0 then rdLoop e.rate e.drop none docs else regE (allR docs)) := rfl
 rw [hl.len] at HF
 clear hl he hok hE hf
 unfold Edl.cells at *
 go_enter Tryz.func24, Tryz.ntmps24
 go_wp2_with (refine wpList_loadB rfl 28 (.tmp 3) rfl w.heap.size 28 _ _ (by exact rfl) (by exact HB0.out) Tryz.underlying28 rfl (by exact size_list) ?_)
 refine (HCk.out _ HX.out).mono ?_
 rintro en w1 ⟨rfl, hx1⟩
 have HX1 := Lib.hid (HX.out.trans hx1)
 have HBl := Lib.hid (HB0.out.ext hx1)
 clear hx1 HB0 HX HCk
 by_cases hee : edlErr e = 0
 case neg =>
  have hne : (edlErr e != 0) = true := by simpa using hee
  have HZ := Lib.hid (HF.out.trans (if_pos hee))
  clear hee
  go_wp2_with fail
  go_ret
  exact ⟨ret_int HZ.out.symm, HX1.out⟩
 have HF1 := Lib.hid (HF.out.trans (if_neg (by simpa using hee)))
 rw [hee]
 clear hee HF
 by_cases h16 : 16 < n
 · have g1 : decide ((n : Int) > 16) = true := by simp; omega
   have g2 : decide ((16 : Int) < n) = true := by simp; omega
   have HZ := Lib.hid (HF1.out.trans (if_pos h16))
   clear h16
   go_wp2_with fail
   go_ret
   exact ⟨ret_int HZ.out.symm, HX1.out⟩
 have g1 : decide ((n : Int) > 16) = false := by simp; omega
 have g2 : decide ((16 : Int) < n) = false := by simp; omega
 have HF2 := Lib.hid (HF1.out.trans (if_neg h16))
 clear HF1
 go_wp2_with fail
 clear g1 g2
 go_loopw [21] (fun i wr => CcRel w1 n e.rate e.drop docs i wr) (fun i _ => n - (intOf i).toNat)
 case atStart => exact ⟨0, Nat.zero_le _, rfl, Ext.refl _, by simp [prevR]⟩
 case round =>
  obtain ⟨k, hk, rfl, hx, hp⟩ := hrel
  have HXr := Lib.hid hx
  have HP := Lib.hid hp
  clear hx hp
  by_cases hlt : k < n
  · obtain ⟨b, off, x, h, rfl, hxk, hat, hsz, c0, c1, c2, c3, c4, c5, c6, c7, c8⟩ := (HL.out.ext (HX1.out.trans HXr.out)).at9 hlt
    obtain ⟨ra, rn, rc, ea, en, ec, ca, cn, cc⟩ := h
    have HS := Lib.hid (rd_step hxk HP.out)
    have hmem := List.mem_of_getElem? hxk
    have HNm := Lib.hid (fun w' => Name_any x.reel w' (HFit.out.reel x hmem))
    have hr1 := hsz.r
    have hr2 := hsz.e
    have hr3 := hsz.c
    dsimp only at hr1 hr2 hr3
    have HDc := Lib.hid (fun w' (hx : Ext wr w') => DCheck_any x.doc ⟨ra, rn, rc, ea, en, ec, ca, cn, cc⟩ w' (HEnv.out.ext ((HX1.out.trans HXr.out).trans hx)) (hat.ext hx) (HFit.out.doc x hmem) (by dsimp only; omega) (by dsimp only; omega) (by dsimp only; omega))
    have HPr : Hid (∀ j, k = j + 1 → ∃ y, docs[j]? = some y ∧ prevR docs k = some y.reel) := fun j hj => by
     subst hj
     obtain ⟨y, hy⟩ := getElem_ltq (l := docs) (p := j) (by have := HLn.out; omega)
     exact ⟨y, hy, by simp [prevR, hy]⟩
    have HBd := Lib.hid (Blk.new wr 58 (x.cells ⟨ra, rn, rc, ea, en, ec, ca, cn, cc⟩))
    have HXd := Lib.hid ((Ext.refl wr).alloc (.cells (x.cells ⟨ra, rn, rc, ea, en, ec, ca, cn, cc⟩) 58))
    clear hxk hat hsz hmem
    unfold RDoc.cells at HBd HXd
    unfold Doc.cells at HDc
    dsimp only at HBd HXd HDc
    have hdc := fun o => HBd.out.cell o
    go_wp2_with fail
    refine (HNm.out _).mono ?_
    rintro e1 w2 ⟨rfl, rfl⟩
    cases hnm : nameB x.reel with
    | false =>
     have HZ := Lib.hid (HS.out.1 (by rw [rd_1 hnm]; decide))
     have HZ2 : Hid (rdNext e.rate e.drop (prevR docs k) x = 5) := rd_1 hnm
     go_wp2_with fail
     go_ret
     exact ⟨ret_int (by rw [HF2.out, if_pos (by rw [HZ.out, HZ2.out]; decide), HZ.out, HZ2.out]), (HX1.out.trans HXr.out).trans HXd.out⟩
    | true =>
     obtain ⟨gx, hgx⟩ : ∃ gx, gx = wr.heap.size := ⟨_, rfl⟩
     obtain ⟨w2, hw2⟩ : ∃ w2, w2 = wr.alloc (.cells #[.string x.reel, .string x.doc.title, .string x.doc.lang, .int .u8 x.doc.rate, .bool x.doc.drop, .int .i64 x.doc.last, .slice ra rn rc, .slice ea en ec, .slice ca cn cc] 58) := ⟨_, rfl⟩
     rw [← hgx] at HBd
     rw [← hw2] at HBd HXd ⊢
     rw [← hgx]
     clear hw2 hgx hdc c0 c1 c2 c3 c4 c5 c6 c7 c8
     have HNm2 := Lib.hid hnm
     clear hnm
     have hdc := fun o => HBd.out.cell o
     by_cases hk0 : 0 < k
     · obtain ⟨j, rfl⟩ : ∃ j, k = j + 1 := ⟨k - 1, by omega⟩
       obtain ⟨b', off', y, h', hA, hyk, -, -, p0, -⟩ := (HL.out.ext ((HX1.out.trans HXr.out).trans HXd.out)).at9 (i := j) (by omega)
       cases hA
       have HPy : Hid (prevR docs (j + 1) = some y.reel) := by show _ = _; simp [prevR, hyk]
       have g8 : decide (((j : Int) + 1) > 0) = true := decide_eq_true (by omega)
       have g8' : decide ((0 : Int) < (j : Int) + 1) = true := decide_eq_true (by omega)
       clear hyk
       cases hlq : (Op.bytesLess x.reel.toList y.reel.toList || x.reel.toList == y.reel.toList) with
       | true =>
        have HZ2 : Hid (rdNext e.rate e.drop (prevR docs (j + 1)) x = 8) := rd_2 HNm2.out (by rw [HPy.out]; simpa using hlq)
        have HZ := Lib.hid (HS.out.1 (by rw [HZ2.out]; decide))
        go_wp2_with fail
        go_quiet (fail)
        go_wp2_with fail
        go_ret
        exact ⟨ret_int (by rw [HF2.out, if_pos (by rw [HZ.out, HZ2.out]; decide), HZ.out, HZ2.out]), ((HX1.out.trans HXr.out).trans HXd.out).drewN _⟩
       | false =>
        have HNo : Hid (¬ ((prevR docs (j + 1)).map fun q => Op.bytesLess x.reel.toList q.toList || x.reel.toList == q.toList) = some true) := by show ¬ _; rw [HPy.out]; simpa using hlq
        go_wp2_with fail
        go_quiet (fail)
        go_wp2_with fail
        refine (HDc.out _ (HXd.out.drewN _)).mono ?_
        rintro e2 w3 ⟨rfl, hx3⟩
        have HX3 := Lib.hid ((HXd.out.drewN _).trans hx3)
        have HB3 := Lib.hid ((HBd.out.ext ((Ext.refl w2).drewN _)).ext hx3)
        have HBl3 := Lib.hid ((HBl.out.ext HXr.out).ext HX3.out)
        clear hx3 hdc
        by_cases hde : x.doc.err = 0
        case neg =>
         have hdn : (x.doc.err != 0) = true := by simpa using hde
         have HZ2 : Hid (rdNext e.rate e.drop (prevR docs (j + 1)) x = x.doc.err) := rd_3 HNm2.out HNo.out hde
         have HZ := Lib.hid (HS.out.1 (by rw [HZ2.out]; exact hde))
         have HR : Hid (conErr docs e = x.doc.err) := HF2.out.trans ((if_pos (by rw [HZ.out, HZ2.out]; exact hde)).trans (HZ.out.trans HZ2.out))
         clear hde
         go_wp2_with fail
         go_ret
         exact ⟨ret_int HR.out.symm, (HX1.out.trans HXr.out).trans HX3.out⟩
        rw [hde]
        have HDe := Lib.hid hde
        clear hde
        have hdc := fun o => HB3.out.cell o
        have hbl := fun o => HBl3.out.cell o
        by_cases hra : x.doc.rate = e.rate
        case neg =>
         have hdn : (x.doc.rate != e.rate) = true := by simpa using hra
         have HZ2 : Hid (rdNext e.rate e.drop (prevR docs (j + 1)) x = 13) := rd_4 HNm2.out HNo.out HDe.out (fun h => hra h.1)
         have HZ := Lib.hid (HS.out.1 (by rw [HZ2.out]; decide))
         have HR : Hid (conErr docs e = 13) := HF2.out.trans ((if_pos (by rw [HZ.out, HZ2.out]; decide)).trans (HZ.out.trans HZ2.out))
         clear hra
         go_wp2_with fail
         go_ret
         exact ⟨ret_int HR.out.symm, (HX1.out.trans HXr.out).trans HX3.out⟩
        have hdn : (x.doc.rate != e.rate) = false := by simpa using hra
        by_cases hdr : x.doc.drop = e.drop
        case neg =>
         have hdn2 : (x.doc.drop == e.drop) = false := by simpa using hdr
         have HZ2 : Hid (rdNext e.rate e.drop (prevR docs (j + 1)) x = 13) := rd_4 HNm2.out HNo.out HDe.out (fun h => hdr h.2)
         have HZ := Lib.hid (HS.out.1 (by rw [HZ2.out]; decide))
         have HR : Hid (conErr docs e = 13) := HF2.out.trans ((if_pos (by rw [HZ.out, HZ2.out]; decide)).trans (HZ.out.trans HZ2.out))
         clear hra hdr
         go_wp2_with fail
         go_ret
         exact ⟨ret_int HR.out.symm, (HX1.out.trans HXr.out).trans HX3.out⟩
        have hdn2 : (x.doc.drop == e.drop) = true := by simpa using hdr
        have HZ2 := Lib.hid (HS.out.2 (rd_5 HNm2.out HNo.out HDe.out ⟨hra, hdr⟩))
        clear hra hdr
        go_wp2_with fail
        exact ⟨⟨j + 1 + 1, by omega, by go_num, HXr.out.trans HX3.out, HZ2.out⟩, by simp [intOf]; omega⟩
     · have hk00 : k = 0 := by omega
       subst hk00
       have HNo : Hid (¬ ((prevR docs 0).map fun q => Op.bytesLess x.reel.toList q.toList || x.reel.toList == q.toList) = some true) := by show ¬ _; simp [prevR]
       go_wp2_with fail
       go_quiet (fail)
       go_wp2_with fail
       refine (HDc.out _ (HXd.out.drewN _)).mono ?_
       rintro e2 w3 ⟨rfl, hx3⟩
       have HX3 := Lib.hid ((HXd.out.drewN _).trans hx3)
       have HB3 := Lib.hid ((HBd.out.ext ((Ext.refl w2).drewN _)).ext hx3)
       have HBl3 := Lib.hid ((HBl.out.ext HXr.out).ext HX3.out)
       clear hx3 hdc
       by_cases hde : x.doc.err = 0
       case neg =>
        have hdn : (x.doc.err != 0) = true := by simpa using hde
        have HZ2 : Hid (rdNext e.rate e.drop (prevR docs 0) x = x.doc.err) := rd_3 HNm2.out HNo.out hde
        have HZ := Lib.hid (HS.out.1 (by rw [HZ2.out]; exact hde))
        have HR : Hid (conErr docs e = x.doc.err) := HF2.out.trans ((if_pos (by rw [HZ.out, HZ2.out]; exact hde)).trans (HZ.out.trans HZ2.out))
        clear hde
        go_wp2_with fail
        go_ret
        exact ⟨ret_int HR.out.symm, (HX1.out.trans HXr.out).trans HX3.out⟩
       rw [hde]
       have HDe := Lib.hid hde
       clear hde
       have hdc := fun o => HB3.out.cell o
       have hbl := fun o => HBl3.out.cell o
       by_cases hra : x.doc.rate = e.rate
       case neg =>
        have hdn : (x.doc.rate != e.rate) = true := by simpa using hra
        have HZ2 : Hid (rdNext e.rate e.drop (prevR docs 0) x = 13) := rd_4 HNm2.out HNo.out HDe.out (fun h => hra h.1)
        have HZ := Lib.hid (HS.out.1 (by rw [HZ2.out]; decide))
        have HR : Hid (conErr docs e = 13) := HF2.out.trans ((if_pos (by rw [HZ.out, HZ2.out]; decide)).trans (HZ.out.trans HZ2.out))
        clear hra
        go_wp2_with fail
        go_ret
        exact ⟨ret_int HR.out.symm, (HX1.out.trans HXr.out).trans HX3.out⟩
       have hdn : (x.doc.rate != e.rate) = false := by simpa using hra
       by_cases hdr : x.doc.drop = e.drop
       case neg =>
        have hdn2 : (x.doc.drop == e.drop) = false := by simpa using hdr
        have HZ2 : Hid (rdNext e.rate e.drop (prevR docs 0) x = 13) := rd_4 HNm2.out HNo.out HDe.out (fun h => hdr h.2)
        have HZ := Lib.hid (HS.out.1 (by rw [HZ2.out]; decide))
        have HR : Hid (conErr docs e = 13) := HF2.out.trans ((if_pos (by rw [HZ.out, HZ2.out]; decide)).trans (HZ.out.trans HZ2.out))
        clear hra hdr
        go_wp2_with fail
        go_ret
        exact ⟨ret_int HR.out.symm, (HX1.out.trans HXr.out).trans HX3.out⟩
       have hdn2 : (x.doc.drop == e.drop) = true := by simpa using hdr
       have HZ2 := Lib.hid (HS.out.2 (rd_5 HNm2.out HNo.out HDe.out ⟨hra, hdr⟩))
       clear hra hdr
       go_wp2_with fail
       exact ⟨⟨0 + 1, by omega, by go_num, HXr.out.trans HX3.out, HZ2.out⟩, by simp [intOf]; omega⟩
  · have hkn : k = n := by omega
    subst hkn
    have hr0 : rdLoop e.rate e.drop none docs = 0 := by rw [HP.out, List.drop_eq_nil_of_le (by have := HLn.out; omega)]; rfl
    have HF3 := Lib.hid (HF2.out.trans (if_neg (by simpa using hr0)))
    have HRg2 := Lib.hid (HRg.out wr (HX1.out.trans HXr.out) (by omega) (fun d hd => regsErr_len (doc_ok (rd_all hr0 d hd).2.1).2.1))
    have HR16 : Hid (∀ d ∈ docs, d.doc.regs.length ≤ 16) := fun d hd => regsErr_len (doc_ok (rd_all hr0 d hd).2.1).2.1
    clear hr0 HRg
    go_wp2_with fail
    refine HRg2.out.mono ?_
    rintro e5 w5 ⟨v, m', rfl, hp, hs, ho, hx5⟩
    have HX5 := Lib.hid ((HX1.out.trans HXr.out).trans hx5)
    have HSm := Lib.hid (regs_same hp hs)
    have hpl := hp.length_eq
    have hul : (uqR (allR docs)).length ≤ 256 := by
     have h1 := allR_len (l := docs) HR16.out
     have h2 := uqR_len (allR docs)
     have := HLn.out
     omega
    obtain ⟨A', c', rfl, hc', hRA⟩ := own_regs ho
    have HRA := Lib.hid hRA
    have HLm := Lib.hid hRA.len
    clear hp hs ho hx5 HRg2 hRA
    obtain ⟨z, hz⟩ : ∃ z, z = m'.length := ⟨_, rfl⟩
    rw [← hz]
    have HZl := Lib.hid hz
    rw [← hz] at HRA
    clear hz
    have hz16 : z ≤ 256 := by rw [HZl.out, hpl]; exact hul
    go_wp2_with fail
    go_loopw [10] (fun i wr => AdRel w5 m' i wr) (fun i _ => z - (intOf i).toNat)
    case atStart => exact ⟨0, .inr rfl, rfl, Ext.refl _, by simp⟩
    case round =>
     obtain ⟨k, hk, rfl, hx, ha⟩ := hrel
     have HXk := Lib.hid hx
     have HA := Lib.hid ha
     clear hx ha
     by_cases hkz : k + 1 < z
     · have g1 : decide ((k : Int) + 1 < (z : Int)) = true := decide_eq_true (by omega)
       obtain ⟨b, off, x, rfl, hx, c0, -⟩ := (HRA.out.ext HXk.out).at_ (i := k) (by omega)
       obtain ⟨b', off', y, hA', hy, d0, -⟩ := (HRA.out.ext HXk.out).at_ (i := k + 1) hkz
       cases hA'
       have HC := Lib.hid (adj_cons2 hx hy)
       unfold nmR at HC
       clear hx hy
       by_cases hq : y.name.toList = x.name.toList
       · have g2 : (y.name.toList == x.name.toList) = true := by simpa using hq
         have HT : Hid (regE (allR docs) = 16) := by
          show _ = _
          rcases HSm.out with ⟨-, h⟩ | ⟨h, -⟩
          · unfold regE; rw [h]
          · rw [HA.out, HC.out, decide_eq_true hq] at h; simp at h
         clear hq
         go_wp2_with fail
         go_quiet (fail)
         go_wp2_with fail
         go_ret
         exact ⟨ret_int (by rw [HF3.out, HT.out]), (HX5.out.trans HXk.out).drewN _⟩
       · have g2 : (y.name.toList == x.name.toList) = false := by simpa using hq
         have HT : Hid (adjB m' = adjB (m'.drop (k + 1))) := by show _ = _; rw [HA.out, HC.out, decide_eq_false hq]; rfl
         clear hq
         go_wp2_with fail
         go_quiet (fail)
         go_wp2_with fail
         exact ⟨⟨k + 1, .inl (by have := HZl.out; omega), by go_num, HXk.out.drewN _, HT.out⟩, by simp [intOf]; omega⟩
     · have g1 : decide ((k : Int) + 1 < (z : Int)) = false := decide_eq_false (by omega)
       have HAf : Hid (adjB m' = false) := by show _ = _; rw [HA.out]; exact adj_last (by have := HZl.out; omega)
       have HT : Hid (regE (allR docs) = if 16 < z then 9 else 0) := by
        show _ = _
        rcases HSm.out with ⟨h, -⟩ | ⟨-, h, -⟩
        · rw [HAf.out] at h; cases h
        · unfold regE; rw [h, HZl.out]
       by_cases hz2 : 16 < z
       · have g3 : decide ((z : Int) > 16) = true := decide_eq_true (by omega)
         have g4 : decide ((16 : Int) < z) = true := decide_eq_true (by omega)
         rw [if_pos hz2] at HT
         clear hz2
         go_wp2_with fail
         go_ret
         exact ⟨ret_int (by rw [HF3.out, HT.out]), HX5.out.trans HXk.out⟩
       · have g3 : decide ((z : Int) > 16) = false := decide_eq_false (by omega)
         have g4 : decide ((16 : Int) < z) = false := decide_eq_false (by omega)
         rw [if_neg hz2] at HT
         clear hz2
         go_wp2_with fail
         go_ret
         exact ⟨ret_int (by rw [HF3.out, HT.out]), HX5.out.trans HXk.out⟩
end
section
open Go.RowKit
def EqRel {α : Type} (w : World) (n : Nat) (l1 l2 : List α) (i : Value) (wr : World) : Prop := ∃ k : Nat, k ≤ n ∧ i = .int .i64 k ∧ Ext w wr ∧ l1.take k = l2.take k
end
section
open Go.RowKit
end
section
open Go.RowKit
theorem neq_reg (a b : Reg) (w : World) : (binOp .neq 105 a.val b.val).run Tryz.prog w = .ok (.bool (!decide (a = b))) w := by
 obtain ⟨nm, top, hgt, lft, wid, al, bot⟩ := a
 obtain ⟨nm', top', hgt', lft', wid', al', bot'⟩ := b
 unfold Reg.val
 dsimp only
 go_simp
 simp only [toList_inj]
 repeat' split
 all_goals simp_all
theorem neq_reg_yes (a b : Reg) (h : ¬ a = b) (w : World) : (binOp .neq 105 a.val b.val).run Tryz.prog w = .ok (.bool true) w := by rw [neq_reg, decide_eq_false h]; rfl
theorem neq_reg_no (a : Reg) (w : World) : (binOp .neq 105 a.val a.val).run Tryz.prog w = .ok (.bool false) w := by rw [neq_reg, decide_eq_true rfl]; rfl
end
section
open Go.RowKit Go.Shelf
theorem insAtR_le (o : List Reg) (r : Reg) : insAtR o r ≤ o.length := by unfold insAtR; exact (List.takeWhile_sublist _).length_le
theorem insAtR_go : ∀ {l : List Reg} {s : Reg} {k : Nat} {x : Reg}, k ≤ insAtR l s → l[k]? = some x → (nmR x < nmR s → k + 1 ≤ insAtR l s) ∧ (¬ nmR x < nmR s → insAtR l s = k)
 | [], s, k, x, _, h => by simp at h
 | a :: l, s, 0, x, _, h => by
  simp at h; subst h
  unfold insAtR
  rw [List.takeWhile_cons]
  by_cases ha : nmR a < nmR s
  · rw [if_pos (by simpa using ha)]; exact ⟨fun _ => by simp, fun h => absurd ha h⟩
  · rw [if_neg (by simpa using ha)]; exact ⟨fun h => absurd h ha, fun _ => rfl⟩
 | a :: l, s, k + 1, x, hk, h => by
  unfold insAtR at hk ⊢
  rw [List.takeWhile_cons] at hk ⊢
  by_cases ha : nmR a < nmR s
  · rw [if_pos (by simpa using ha)] at hk ⊢
    simp only [List.length_cons] at hk ⊢
    have := insAtR_go (l := l) (s := s) (k := k) (x := x) (by unfold insAtR; omega) (by simpa using h)
    unfold insAtR at this
    exact ⟨fun h => by have := this.1 h; omega, fun h => by have := this.2 h; omega⟩
  · rw [if_neg (by simpa using ha)] at hk
    simp at hk
theorem insRg_end {o : List Reg} {r : Reg} {k : Nat} (hk : insAtR o r = k) (hl : k = o.length) : insRg o r = some (o.take k ++ r :: o.drop k) := by
 unfold insRg
 rw [hk, List.getElem?_eq_none (by omega)]
theorem insRg_mid {o : List Reg} {r x : Reg} {k : Nat} (hk : insAtR o r = k) (hx : o[k]? = some x) (hn : ¬ nmR x = nmR r) : insRg o r = some (o.take k ++ r :: o.drop k) := by
 unfold insRg
 rw [hk, hx]
 show (if nmR x = nmR r then _ else _) = _
 rw [if_neg hn]
theorem insRg_eq {o : List Reg} {r : Reg} {k : Nat} (hk : insAtR o r = k) (hx : o[k]? = some r) : insRg o r = some o := by
 unfold insRg
 rw [hk, hx]
 show (if nmR r = nmR r then (if r = r then _ else _) else _) = _
 rw [if_pos rfl, if_pos rfl]
theorem insRg_bad {o : List Reg} {r x : Reg} {k : Nat} (hk : insAtR o r = k) (hx : o[k]? = some x) (hn : nmR x = nmR r) (hq : ¬ x = r) : insRg o r = none := by
 unfold insRg
 rw [hk, hx]
 show (if nmR x = nmR r then (if x = r then _ else _) else _) = _
 rw [if_pos hn, if_neg hq]
theorem refR_snoc (l : List Reg) (r : Reg) : refR (l ++ [r]) = refStep (refR l) r := by unfold refR; rw [List.foldl_append]; rfl
theorem refR_none : ∀ (l : List Reg), l.foldl refStep none = none
 | [] => rfl
 | _ :: l => refR_none l
theorem refR_pre {a : List Reg} (b : List Reg) (h : refR a = none) : refR (a ++ b) = none := by
 have h' : a.foldl refStep (some []) = none := h
 unfold refR
 rw [List.foldl_append, h']
 exact refR_none b
theorem insRg_len {o q : List Reg} {r : Reg} (h : insRg o r = some q) : q.length ≤ o.length + 1 := by
 have hle := insAtR_le o r
 unfold insRg at h
 split at h
 · split at h
   · split at h
     · cases h; omega
     · cases h
   · cases h; simp [List.length_take]; omega
 · cases h; simp [List.length_take]; omega
theorem refR_len0 : ∀ (l : List Reg) {o q : List Reg}, l.foldl refStep (some o) = some q → q.length ≤ o.length + l.length
 | [], o, q, h => by cases h; simp
 | r :: l, o, q, h => by
  rw [List.foldl_cons] at h
  have hs : refStep (some o) r = insRg o r := rfl
  rw [hs] at h
  cases hi : insRg o r with
  | none => rw [hi, refR_none] at h; cases h
  | some p => rw [hi] at h; have h1 := refR_len0 l h; have h2 := insRg_len hi; simp; omega
theorem refR_len {l q : List Reg} (h : refR l = some q) : q.length ≤ l.length := by have := refR_len0 l h; simpa using this
theorem allR_split (l : List RDoc) (k : Nat) : allR l = allR (l.take k) ++ allR (l.drop k) := by
 unfold allR
 rw [← List.flatMap_append, List.take_append_drop]
theorem own_two {w : World} {L g cap : Nat} {o : List Reg} (h : w.ownsRow L 105 7 (.slice (some ⟨g, 0, none⟩) o.length cap) o.length (o.flatMap Reg.vals)) : Sl w 7 (Cells Reg.vals) (some ⟨g, 0, none⟩) o.length o ∧ RegsAt w (some ⟨g, 0, none⟩) o.length o ∧ o.length ≤ cap := by
 obtain ⟨A, c, hv, hc, -, hS, -⟩ := own_sl (f := Reg.vals) (size := 7) (fun _ => rfl) rfl h
 cases hv
 exact ⟨hS, Sl.change (D := RegC) hS fun b o r hm => regC_cells hm, hc⟩
def Rr1 (w : World) (n : Nat) (l : List RDoc) (v i : Value) (wr : World) : Prop :=
 ∃ k : Nat, k ≤ n ∧ i = .int .i64 k ∧ Ext w wr ∧ ∃ o, refR (allR (l.take k)) = some o ∧ wr.ownsRow w.heap.size 105 7 v o.length (o.flatMap Reg.vals)
def Rr2 (w : World) (m : Nat) (P rs : List Reg) (v i : Value) (wr : World) : Prop :=
 ∃ j : Nat, j ≤ m ∧ i = .int .i64 j ∧ Ext w wr ∧ ∃ o, refR (P ++ rs.take j) = some o ∧ wr.ownsRow w.heap.size 105 7 v o.length (o.flatMap Reg.vals)
def Rr3 (w0 : World) (o : List Reg) (r : Reg) (i : Value) (wr : World) : Prop := ∃ k : Nat, k ≤ insAtR o r ∧ i = .int .i64 k ∧ Ext w0 wr
def RrPost (L : List Reg) (w : World) (e : Ending) (w' : World) : Prop := Ext w w' ∧ ((refR L = none ∧ e = .returned (.tuple #[.slice none 0 0, .bool false])) ∨
 ∃ v m, refR L = some m ∧ e = .returned (.tuple #[v, .bool true]) ∧ w'.ownsRow w.heap.size 105 7 v m.length (m.flatMap Reg.vals))
set_option maxRecDepth 100000 in
set_option maxHeartbeats 32000000 in
theorem RRegions_any (A : Option Addr) (n c : Nat) (l : List RDoc) (w : World) (hl : RDocsAt w A n l) (hn : n ≤ 16) (hr16 : ∀ d ∈ l, d.doc.regs.length ≤ 16) :
 Calls Tryz.prog 52 #[.slice A n c] w (RrPost (allR l) w) := by
 have HL := Lib.hid hl
 have HLn := Lib.hid hl.len
 have HR16 := Lib.hid hr16
 clear hl hr16
 go_enter Tryz.func52, Tryz.ntmps52
 go_wp2_with fail
 go_loopw [4, 13] (fun v i wr => Rr1 w n l v i wr) (fun _ i _ => n - (intOf i).toNat)
 case atStart => exact ⟨0, Nat.zero_le _, rfl, Ext.refl _, [], by simp [allR, refR], ⟨rfl, .inl ⟨rfl, rfl⟩⟩⟩
 case round =>
  obtain ⟨k, hk, rfl, hx, o0, ho0, hown⟩ := hrel
  have HX := Lib.hid hx
  have HO := Lib.hid hown
  have HR0 := Lib.hid ho0
  have hzr := hx.size
  clear hx hown ho0
  by_cases hlt : k < n
  · obtain ⟨b, off, d, h, rfl, hdk, hat, hsz, c0, c1, c2, c3, c4, c5, c6, c7, c8⟩ := HL.out.at9 hlt
    replace c0 := HX.out.cell c0
    replace c1 := HX.out.cell c1
    replace c2 := HX.out.cell c2
    replace c3 := HX.out.cell c3
    replace c4 := HX.out.cell c4
    replace c5 := HX.out.cell c5
    replace c6 := HX.out.cell c6
    replace c7 := HX.out.cell c7
    replace c8 := HX.out.cell c8
    obtain ⟨ra, rn, rc, ea, en, ec, ca, cn, cc⟩ := h
    have HRg := Lib.hid hat.regs
    have HDk := Lib.hid (allR_take hdk)
    have hr1 := HR16.out d (List.mem_of_getElem? hdk)
    have hP : (allR (l.take k)).length ≤ 256 := by
     have h1 := allR_len (l := l.take k) (fun x hx => HR16.out x (List.mem_of_mem_take hx))
     rw [List.length_take] at h1
     omega
    have HPre : Hid (∀ j, refR (allR (l.take k) ++ d.doc.regs.take j) = none → refR (allR l) = none) := by
     show ∀ j, refR (allR (l.take k) ++ d.doc.regs.take j) = none → refR (allR l) = none
     intro j hj
     rw [allR_split l (k + 1), HDk.out]
     have := refR_pre (d.doc.regs.drop j ++ allR (l.drop (k + 1))) hj
     rw [List.append_assoc, ← List.append_assoc (d.doc.regs.take j), List.take_append_drop, ← List.append_assoc] at this
     exact this
    have hrl := hat.regs.len
    dsimp only at HRg hrl
    have hrn : rn ≤ 16 := by omega
    clear hdk hat hsz
    generalize allR (l.take k) = P at *
    have HBd := Lib.hid (Blk.new wr 58 (d.cells ⟨ra, rn, rc, ea, en, ec, ca, cn, cc⟩))
    have HX1 := Lib.hid (HX.out.alloc (.cells (d.cells ⟨ra, rn, rc, ea, en, ec, ca, cn, cc⟩) 58))
    have HO1 := Lib.hid (HO.out.alloc (.cells (d.cells ⟨ra, rn, rc, ea, en, ec, ca, cn, cc⟩) 58))
    unfold RDoc.cells at HBd HX1 HO1
    dsimp only at HBd HX1 HO1
    go_upto_region 5 with fail
    obtain ⟨gx, hgx⟩ : ∃ gx, gx = wr.heap.size := ⟨_, rfl⟩
    rw [← hgx] at HBd ⊢
    obtain ⟨w1, hw1⟩ : ∃ w1, w1 = wr.alloc (.cells #[.string d.reel, .string d.doc.title, .string d.doc.lang, .int .u8 d.doc.rate, .bool d.doc.drop, .int .i64 d.doc.last, .slice ra rn rc, .slice ea en ec, .slice ca cn cc] 58) := ⟨_, rfl⟩
    rw [← hw1] at HBd HX1 HO1 ⊢
    clear hw1 hgx c0 c1 c2 c3 c4 c5 c6 c7 c8 HO
    have b6 := HBd.out.cell 6
    simp only [List.getElem?_toArray, List.getElem?_cons_zero, List.getElem?_cons_succ] at b6
    go_wp2_with fail
    clear b6
    go_loopw [4, 21] (fun v i wq => Rr2 w rn P d.doc.regs v i wq) (fun _ i _ => rn - (intOf i).toNat)
    case atStart => exact ⟨0, Nat.zero_le _, rfl, HX1.out, o0, by simpa using HR0.out, HO1.out⟩
    case round =>
     obtain ⟨j, hj, rfl, hxq, o, hro, hown⟩ := hrel
     have HXq := Lib.hid hxq
     have HOq := Lib.hid hown
     have HRo := Lib.hid hro
     have hzq := hxq.size
     have hql : o.length ≤ 300 := by have := refR_len hro; rw [List.length_append, List.length_take] at this; omega
     clear hxq hown hro
     by_cases hjt : j < rn
     · obtain ⟨b2, off2, r, rfl, hrk, d0, d1, d2, d3, d4, d5, d6⟩ := (HRg.out.ext HXq.out).at_ hjt
       have HSt : Hid (refR (P ++ d.doc.regs.take (j + 1)) = insRg o r) := by show _ = _; rw [take_snoc' _ _ _ hrk, ← List.append_assoc, refR_snoc, HRo.out]; rfl
       clear hrk
       have HBr := Lib.hid (Blk.new wr 105 #[.string r.name, .int .i64 r.top, .int .i64 r.height, .int .i64 r.left, .int .i64 r.width, .int .u8 r.align, .bool r.bottom])
       have HXr := Lib.hid (HXq.out.alloc (.cells #[.string r.name, .int .i64 r.top, .int .i64 r.height, .int .i64 r.left, .int .i64 r.width, .int .u8 r.align, .bool r.bottom] 105))
       have HOr := Lib.hid (HOq.out.alloc (.cells #[.string r.name, .int .i64 r.top, .int .i64 r.height, .int .i64 r.left, .int .i64 r.width, .int .u8 r.align, .bool r.bottom] 105))
       go_upto_region 8 with fail
       obtain ⟨gr, hgr0⟩ : ∃ gr, gr = wr.heap.size := ⟨_, rfl⟩
       rw [← hgr0] at HBr ⊢
       obtain ⟨w1q, hw1q⟩ : ∃ w1q, w1q = wr.alloc (.cells #[.string r.name, .int .i64 r.top, .int .i64 r.height, .int .i64 r.left, .int .i64 r.width, .int .u8 r.align, .bool r.bottom] 105) := ⟨_, rfl⟩
       rw [← hw1q] at HBr HXr HOr ⊢
       clear hw1q hgr0 d0 d1 d2 d3 d4 d5 d6 HOq HXq
       have hzr1 := HXr.out.size
       rcases HOr.out.2 with ⟨hv, h0⟩ | ⟨g, cap, cur, hv, -⟩
       · have HNil := Lib.hid (List.length_eq_zero_iff.1 h0)
         subst hv
         have HSt2 : Hid (refR (P ++ d.doc.regs.take (j + 1)) = some [r]) := by show _ = _; rw [HSt.out, HNil.out]; rfl
         clear HSt h0
         go_wp2_with fail
         go_loopw [9] (fun i wr => Rr3 w1q [] r i wr) (fun i _ => 0 - (intOf i).toNat)
         case atStart => exact ⟨0, Nat.zero_le _, rfl, Ext.refl _⟩
         case round =>
          obtain ⟨k', hk', rfl, hx⟩ := hrel
          have HX3 := Lib.hid hx
          have hk0 : k' = 0 := by simp [insAtR] at hk'; exact hk'
          subst hk0
          have hcg := fun o => (HBr.out.ext hx).cell o
          clear hx hk'
          go_wp2_with fail
          go_quiet (fail)
          clear hcg
          go_upto_region 11 with fail
          refine wp_drewN ?_
          intro w3 hx3 hs3
          have HX30 := Lib.hid (HX3.out.trans hx3)
          have hcg := fun o => (HBr.out.ext HX30.out).cell o
          clear hx3 hs3
          go_wp2_with fail
          go_quiet (fail)
          clear hcg
          go_upto_region 14 with fail
          refine wp_drewN ?_
          intro w4 hx4 hs4
          have HX4 := Lib.hid (HXr.out.trans (HX30.out.trans hx4))
          have HB4 := Lib.hid (HBr.out.ext (HX30.out.trans hx4))
          have HT1 : Hid (Sl w4 7 (Cells Reg.vals) none 0 []) := Sl.nil
          have HT2 : Hid (∀ A, Sl w4 7 (Cells Reg.vals) A 0 []) := fun A => Sl.nil
          have hsz4 := HX4.out.size
          clear hx4 hs4
          go_wp2_with (first | (refine wpList_loadB rfl 105 (.tmp 8) rfl gr 105 _ _ (by exact rfl) (by exact HB5.out) Tryz.underlying105 rfl (by exact info_reg) ?_) | (at_builtin; refine wpList_appendS rfl (.tmp 61) (.tmp 64) 48 rfl info_regI Tryz.underlying48 rfl (by decide) (by exact own_nil0' (base := w4.heap.size) rfl (Nat.le_refl _)) (by exact rfl) (by exact rfl) (by exact Sl.ext (Cells.stays _) HT1.out ((Ext.refl w4).alloc _)) (fun _ => rfl) reg_ones (by omega) (by simp [maxLen] <;> omega) (by first | omega | (simp; omega) | simp) ?_; intro v1 w5 hown1 hgr1 hnil1; have hx5 : Ext w4 w5 := Ext.grown ((Ext.refl w4).alloc _) hgr1 (fun q hq => by simp [Value.ownBlock] at hq; omega); have hs5 := hx5.size; have HB5 := Lib.hid (HB4.out.ext hx5); have HO1 := Lib.hid hown1; clear hown1 hgr1) | (at_builtin; refine wpList_append1 rfl (.tmp 66) (.tmp 68) 48 rfl info_regI Tryz.underlying48 rfl (by decide) (HO1.out.alloc _) (by exact rfl) w5.heap.size _ (by exact rfl) (by exact Blk.new' rfl) (by exact rfl) (by simp [Value.oneCell']) (by omega) (by simp [maxLen] <;> omega) (by first | omega | (simp; omega) | simp) ?_; intro v2 w6 hown2 hgr2; have hx6 : Ext w4 w6 := Ext.grown (hx5.alloc _) hgr2 (fun q hq => by have := own_lt HO1.out q hq; omega); have hs6 := hx6.size; have HO2 := Lib.hid hown2; have HX6 := Lib.hid hx6; have HT6 := Lib.hid (fun A => Sl.ext (Cells.stays _) (HT2.out A) hx6); clear hown2 hgr2) | (at_builtin; refine wpList_appendS rfl (.tmp 70) (.tmp 73) 48 rfl info_regI Tryz.underlying48 rfl (by decide) (by exact HO2.out) (by exact rfl) (by exact rfl) (by first | exact HT6.out | exact HT6.out _) (fun _ => rfl) reg_ones (by omega) (by simp [maxLen] <;> omega) (by first | omega | (simp; omega) | simp) ?_; intro v3 w7 hown3 hgr3 hnil3; have hx7 : Ext w4 w7 := Ext.grown HX6.out hgr3 (fun q hq => by have := own_lt HO2.out q hq; omega); have HO3 := Lib.hid hown3; clear hown3 hgr3))
          exact ⟨⟨j + 1, by omega, by go_num, HX4.out.trans hx7, [r], HSt2.out, own_le' HO3.out hsz4⟩, by simp [intOf]; omega⟩
       · subst hv
         have HOw := Lib.hid (own_two HOr.out)
         have hcap := HOw.out.2.2
         have HRA := Lib.hid HOw.out.2.1
         have HSl := Lib.hid HOw.out.1
         clear HOw
         have hpl := insAtR_le o r
         go_wp2_with fail
         go_loopw [9] (fun i wr => Rr3 w1q o r i wr) (fun i _ => o.length - (intOf i).toNat)
         case atStart => exact ⟨0, Nat.zero_le _, rfl, Ext.refl _⟩
         case round =>
          obtain ⟨k, hk, rfl, hx⟩ := hrel
          have HX3 := Lib.hid hx
          have hcg := (HBr.out.ext hx).cell 0
          simp only [List.getElem?_toArray, List.getElem?_cons_zero, List.getElem?_cons_succ] at hcg
          clear hx
          by_cases hlo : k < o.length
          · have hji : (k : Int) < (o.length : Int) := by omega
            obtain ⟨b3, off3, x, hA', hxk, c0, c1, c2, c3, c4, c5, c6⟩ := (HRA.out.ext HX3.out).at_ hlo
            cases hA'
            simp only [Nat.zero_add, Nat.add_zero] at c0 c1 c2 c3 c4 c5 c6
            have HGo := Lib.hid (insAtR_go hk hxk)
            have HXk := Lib.hid hxk
            have HC6 := Lib.hid (And.intro c0 (And.intro c1 (And.intro c2 (And.intro c3 (And.intro c4 (And.intro c5 c6))))))
            clear hxk c1 c2 c3 c4 c5 c6
            by_cases ht : nmR x < nmR r
            · have hk1 : k + 1 ≤ insAtR o r := HGo.out.1 ht
              have hd : Op.bytesLess x.name.toList r.name.toList = true := by rw [bytesLess_eq]; simpa [nmR] using ht
              clear ht
              go_wp2_with fail
              go_quiet (fail)
              go_wp2_with fail
              exact ⟨⟨k + 1, hk1, by go_num, HX3.out.drewN _⟩, by simp [intOf]; omega⟩
            · have HK := Lib.hid (HGo.out.2 ht)
              have hd : Op.bytesLess x.name.toList r.name.toList = false := by rw [bytesLess_eq]; simpa [nmR] using ht
              clear HGo ht
              go_wp2_with fail
              go_quiet (fail)
              clear c0 hcg hd
              go_upto_region 11 with fail
              refine wp_drewN ?_
              intro w3 hx3 hs3
              have HX30 := Lib.hid (HX3.out.trans hx3)
              have hcg := (HBr.out.ext HX30.out).cell 0
              simp only [List.getElem?_toArray, List.getElem?_cons_zero, List.getElem?_cons_succ] at hcg
              have c0 := hx3.cell HC6.out.1
              have HC3 := Lib.hid (And.intro (hx3.cell HC6.out.2.1) (And.intro (hx3.cell HC6.out.2.2.1) (And.intro (hx3.cell HC6.out.2.2.2.1) (And.intro (hx3.cell HC6.out.2.2.2.2.1) (And.intro (hx3.cell HC6.out.2.2.2.2.2.1) (hx3.cell HC6.out.2.2.2.2.2.2))))))
              have HC0 := Lib.hid c0
              clear hx3 hs3
              by_cases hn : nmR x = nmR r
              · have hd : (x.name.toList == r.name.toList) = true := by simpa [nmR] using hn
                by_cases hq : x = r
                · subst hq
                  have HI := Lib.hid (insRg_eq HK.out HXk.out)
                  have hne := fun w => neq_reg_no x w
                  unfold Reg.val at hne
                  clear hn
                  go_wp2_with fail
                  go_quiet (fail)
                  clear hcg hd c0
                  go_upto_region 12 with fail
                  refine wp_drewN ?_
                  intro w4 hx4 hs4
                  have HX4 := Lib.hid (HX30.out.trans hx4)
                  have HB4 := Lib.hid (HBr.out.ext HX4.out)
                  have e0 := hx4.cell HC0.out
                  have e1 := hx4.cell HC3.out.1
                  have e2 := hx4.cell HC3.out.2.1
                  have e3 := hx4.cell HC3.out.2.2.1
                  have e4 := hx4.cell HC3.out.2.2.2.1
                  have e5 := hx4.cell HC3.out.2.2.2.2.1
                  have e6 := hx4.cell HC3.out.2.2.2.2.2
                  have f0 := HB4.out.cell 0
                  have f1 := HB4.out.cell 1
                  have f2 := HB4.out.cell 2
                  have f3 := HB4.out.cell 3
                  have f4 := HB4.out.cell 4
                  have f5 := HB4.out.cell 5
                  have f6 := HB4.out.cell 6
                  simp only [List.getElem?_toArray, List.getElem?_cons_zero, List.getElem?_cons_succ] at f0 f1 f2 f3 f4 f5 f6
                  clear hx4 hs4
                  go_wp2_with fail
                  go_quiet (fail)
                  go_wp2_with fail
                  exact ⟨⟨j + 1, by omega, by go_num, HXr.out.trans (HX4.out.drewN _), o, by rw [HSt.out, HI.out], own_ext HOr.out (HX4.out.drewN _)⟩, by simp [intOf]; omega⟩
                · have HI := Lib.hid (insRg_bad HK.out HXk.out hn hq)
                  have hne := fun w => neq_reg_yes x r hq w
                  unfold Reg.val at hne
                  clear hn hq
                  go_wp2_with fail
                  go_quiet (fail)
                  clear hcg hd c0
                  go_upto_region 12 with fail
                  refine wp_drewN ?_
                  intro w4 hx4 hs4
                  have HX4 := Lib.hid (HX30.out.trans hx4)
                  have HB4 := Lib.hid (HBr.out.ext HX4.out)
                  have e0 := hx4.cell HC0.out
                  have e1 := hx4.cell HC3.out.1
                  have e2 := hx4.cell HC3.out.2.1
                  have e3 := hx4.cell HC3.out.2.2.1
                  have e4 := hx4.cell HC3.out.2.2.2.1
                  have e5 := hx4.cell HC3.out.2.2.2.2.1
                  have e6 := hx4.cell HC3.out.2.2.2.2.2
                  have f0 := HB4.out.cell 0
                  have f1 := HB4.out.cell 1
                  have f2 := HB4.out.cell 2
                  have f3 := HB4.out.cell 3
                  have f4 := HB4.out.cell 4
                  have f5 := HB4.out.cell 5
                  have f6 := HB4.out.cell 6
                  simp only [List.getElem?_toArray, List.getElem?_cons_zero, List.getElem?_cons_succ] at f0 f1 f2 f3 f4 f5 f6
                  clear hx4 hs4
                  go_wp2_with fail
                  go_quiet (fail)
                  go_wp2_with fail
                  go_ret2
                  exact ⟨HXr.out.trans (HX4.out.drewN _), .inl ⟨HPre.out (j + 1) (by rw [HSt.out, HI.out]), rfl⟩⟩
              · have hd : (x.name.toList == r.name.toList) = false := beq_eq_false_iff_ne.2 hn
                have HI := Lib.hid (insRg_mid HK.out HXk.out hn)
                clear hn
                go_wp2_with fail
                go_quiet (fail)
                clear hcg hd c0
                go_upto_region 14 with fail
                refine wp_drewN ?_
                intro w4 hx4 hs4
                have HX40 := Lib.hid (HX30.out.trans hx4)
                have HX4 := Lib.hid (HXr.out.trans HX40.out)
                have HB4 := Lib.hid (HBr.out.ext HX40.out)
                have HT1 := Lib.hid ((Sl.ext (Cells.stays _) HSl.out HX40.out).take (by omega : k ≤ o.length))
                have HT2 : Hid (Sl w4 7 (Cells Reg.vals) (some ⟨g, k * 7, none⟩) (o.length - k) (o.drop k)) := by have h := (Sl.ext (Cells.stays _) HSl.out HX40.out).drop k; rw [Nat.zero_add] at h; exact h
                have hsz4 := HX4.out.size
                clear hx4 hs4
                go_wp2_with (first | (refine wpList_loadB rfl 105 (.tmp 8) rfl gr 105 _ _ (by exact rfl) (by exact HB5.out) Tryz.underlying105 rfl (by exact info_reg) ?_) | (at_builtin; refine wpList_appendS rfl (.tmp 61) (.tmp 64) 48 rfl info_regI Tryz.underlying48 rfl (by decide) (by exact own_nil0' (base := w4.heap.size) rfl (Nat.le_refl _)) (by exact rfl) (by exact rfl) (by exact Sl.ext (Cells.stays _) HT1.out ((Ext.refl w4).alloc _)) (fun _ => rfl) reg_ones (by omega) (by simp [maxLen] <;> omega) (by first | omega | (simp; omega) | simp) ?_; intro v1 w5 hown1 hgr1 hnil1; have hx5 : Ext w4 w5 := Ext.grown ((Ext.refl w4).alloc _) hgr1 (fun q hq => by simp [Value.ownBlock] at hq; omega); have hs5 := hx5.size; have HB5 := Lib.hid (HB4.out.ext hx5); have HO1 := Lib.hid hown1; clear hown1 hgr1) | (at_builtin; refine wpList_append1 rfl (.tmp 66) (.tmp 68) 48 rfl info_regI Tryz.underlying48 rfl (by decide) (HO1.out.alloc _) (by exact rfl) w5.heap.size _ (by exact rfl) (by exact Blk.new' rfl) (by exact rfl) (by simp [Value.oneCell']) (by omega) (by simp [maxLen] <;> omega) (by first | omega | (simp; omega) | simp) ?_; intro v2 w6 hown2 hgr2; have hx6 : Ext w4 w6 := Ext.grown (hx5.alloc _) hgr2 (fun q hq => by have := own_lt HO1.out q hq; omega); have hs6 := hx6.size; have HO2 := Lib.hid hown2; have HX6 := Lib.hid hx6; have HT6 := Lib.hid (Sl.ext (Cells.stays _) HT2.out hx6); clear hown2 hgr2) | (at_builtin; refine wpList_appendS rfl (.tmp 70) (.tmp 73) 48 rfl info_regI Tryz.underlying48 rfl (by decide) (by exact HO2.out) (by exact rfl) (by exact rfl) (by first | exact HT6.out | exact HT6.out _) (fun _ => rfl) reg_ones (by omega) (by simp [maxLen] <;> omega) (by first | omega | (simp; omega) | simp) ?_; intro v3 w7 hown3 hgr3 hnil3; have hx7 : Ext w4 w7 := Ext.grown HX6.out hgr3 (fun q hq => by have := own_lt HO2.out q hq; omega); have HO3 := Lib.hid hown3; clear hown3 hgr3))
                exact ⟨⟨j + 1, by omega, by go_num, HX4.out.trans hx7, o.take k ++ r :: o.drop k, by rw [HSt.out, HI.out], by have h1 := own_le' HO3.out hsz4; have hl2 : (o.take k ++ r :: o.drop k).length = k + 1 + (o.length - k) := (by simp [List.length_take]; omega); have hl3 : o.take k ++ r :: o.drop k = o.take k ++ [r] ++ o.drop k := (by simp); rw [hl2, hl3, List.flatMap_append, List.flatMap_append]; rw [Nat.zero_add] at h1; exact h1⟩, by simp [intOf]; omega⟩
          · have hkl : k = o.length := by omega
            have HK : Hid (insAtR o r = k) := by show _ = _; omega
            have HI := Lib.hid (insRg_end HK.out hkl)
            have hji : decide ((k : Int) < (o.length : Int)) = false := by simp; omega
            have hk1 : k ≤ o.length := by omega
            clear hkl
            go_wp2_with fail
            go_quiet (fail)
            clear hcg
            go_upto_region 11 with fail
            refine wp_drewN ?_
            intro w3 hx3 hs3
            have HX30 := Lib.hid (HX3.out.trans hx3)
            clear hx3 hs3
            go_wp2_with fail
            go_quiet (fail)
            go_upto_region 14 with fail
            refine wp_drewN ?_
            intro w4 hx4 hs4
            have HX40 := Lib.hid (HX30.out.trans hx4)
            have HX4 := Lib.hid (HXr.out.trans HX40.out)
            have HB4 := Lib.hid (HBr.out.ext HX40.out)
            have HT1 := Lib.hid ((Sl.ext (Cells.stays _) HSl.out HX40.out).take (by omega : k ≤ o.length))
            have HT2 : Hid (∀ A, Sl w4 7 (Cells Reg.vals) A (o.length - k) (o.drop k)) := fun A => ⟨by simp, fun h => absurd h (by omega)⟩
            have hsz4 := HX4.out.size
            clear hx4 hs4
            go_wp2_with (first | (refine wpList_loadB rfl 105 (.tmp 8) rfl gr 105 _ _ (by exact rfl) (by exact HB5.out) Tryz.underlying105 rfl (by exact info_reg) ?_) | (at_builtin; refine wpList_appendS rfl (.tmp 61) (.tmp 64) 48 rfl info_regI Tryz.underlying48 rfl (by decide) (by exact own_nil0' (base := w4.heap.size) rfl (Nat.le_refl _)) (by exact rfl) (by exact rfl) (by exact Sl.ext (Cells.stays _) HT1.out ((Ext.refl w4).alloc _)) (fun _ => rfl) reg_ones (by omega) (by simp [maxLen] <;> omega) (by first | omega | (simp; omega) | simp) ?_; intro v1 w5 hown1 hgr1 hnil1; have hx5 : Ext w4 w5 := Ext.grown ((Ext.refl w4).alloc _) hgr1 (fun q hq => by simp [Value.ownBlock] at hq; omega); have hs5 := hx5.size; have HB5 := Lib.hid (HB4.out.ext hx5); have HO1 := Lib.hid hown1; clear hown1 hgr1) | (at_builtin; refine wpList_append1 rfl (.tmp 66) (.tmp 68) 48 rfl info_regI Tryz.underlying48 rfl (by decide) (HO1.out.alloc _) (by exact rfl) w5.heap.size _ (by exact rfl) (by exact Blk.new' rfl) (by exact rfl) (by simp [Value.oneCell']) (by omega) (by simp [maxLen] <;> omega) (by first | omega | (simp; omega) | simp) ?_; intro v2 w6 hown2 hgr2; have hx6 : Ext w4 w6 := Ext.grown (hx5.alloc _) hgr2 (fun q hq => by have := own_lt HO1.out q hq; omega); have hs6 := hx6.size; have HO2 := Lib.hid hown2; have HX6 := Lib.hid hx6; have HT6 := Lib.hid (fun A => Sl.ext (Cells.stays _) (HT2.out A) hx6); clear hown2 hgr2) | (at_builtin; refine wpList_appendS rfl (.tmp 70) (.tmp 73) 48 rfl info_regI Tryz.underlying48 rfl (by decide) (by exact HO2.out) (by exact rfl) (by exact rfl) (by first | exact HT6.out | exact HT6.out _) (fun _ => rfl) reg_ones (by omega) (by simp [maxLen] <;> omega) (by first | omega | (simp; omega) | simp) ?_; intro v3 w7 hown3 hgr3 hnil3; have hx7 : Ext w4 w7 := Ext.grown HX6.out hgr3 (fun q hq => by have := own_lt HO2.out q hq; omega); have HO3 := Lib.hid hown3; clear hown3 hgr3))
            exact ⟨⟨j + 1, by omega, by go_num, HX4.out.trans hx7, o.take k ++ r :: o.drop k, by rw [HSt.out, HI.out], by have h1 := own_le' HO3.out hsz4; have hl2 : (o.take k ++ r :: o.drop k).length = k + 1 + (o.length - k) := (by simp [List.length_take]; omega); have hl3 : o.take k ++ r :: o.drop k = o.take k ++ [r] ++ o.drop k := (by simp); rw [hl2, hl3, List.flatMap_append, List.flatMap_append]; rw [Nat.zero_add] at h1; exact h1⟩, by simp [intOf]; omega⟩
     · have hjm : j = rn := by omega
       subst hjm
       have HT : Hid (refR (allR (l.take (k + 1))) = some o) := by show _ = _; rw [HDk.out, ← HRo.out, List.take_of_length_le (by omega)]
       go_wp2_with fail
       exact ⟨⟨k + 1, by omega, by go_num, HXq.out, o, HT.out, HOq.out⟩, by simp [intOf]; omega⟩
  · have hkn : k = n := by omega
    subst hkn
    have HT : Hid (refR (allR l) = some o0) := by show _ = _; rw [← HR0.out, List.take_of_length_le (by have := HLn.out; omega)]
    go_wp2_with fail
    go_ret2
    exact ⟨HX.out, .inr ⟨_, o0, HT.out, rfl, HO.out⟩⟩
end
section
open Go.RowKit
set_option maxHeartbeats 400000 in
theorem R10Default_any (w : World) : Calls Tryz.prog 226 #[] w fun e w' => e = .returned Reg.default.val ∧ Ext w w' := by
 go_enter Tryz.func226, Tryz.ntmps226
 go_wp2
 exact bodyPost_ret (v := Reg.default.val) (by simp [results, Tryz.results226, go_sem, Reg.val, Reg.default]; rfl) rfl ⟨rfl, (Ext.refl w).alloc _⟩
set_option maxHeartbeats 4000000 in
theorem R10Check_any (r : Reg) (w : World) (hs : r.name.size ≤ 9223372036854775807) : Calls Tryz.prog 170 #[r.val] w fun e w' => e = .returned (.int .i64 r.check) ∧ Ext w w' := by
 obtain ⟨nm, top, hgt, lft, wid, al, bot⟩ := r
 unfold Reg.val
 dsimp only
 cases hn : nameB nm
 · have HN := Lib.hid hn
   have HF : Hid (Reg.check ⟨nm, top, hgt, lft, wid, al, bot⟩ = 5) := by show Reg.check _ = 5; unfold Reg.check; rw [if_pos hn]
   clear hn
   go_enter Tryz.func170, Tryz.ntmps170
   go_wp2_with fail
   refine (RName_any nm _ hs).mono ?_
   rintro e w1 ⟨rfl, hx1⟩
   rw [HN.out]
   go_wp2_with fail
   go_ret
   exact ⟨ret_int HF.out.symm, ((Ext.refl w).alloc _).trans hx1⟩
 have HN := Lib.hid hn
 have HC : Hid (Reg.check ⟨nm, top, hgt, lft, wid, al, bot⟩ = if ¬ Reg.inGrid ⟨nm, top, hgt, lft, wid, al, bot⟩ then 2 else if al < 1 ∨ 3 < al then 3 else 0) := by
  show Reg.check _ = _
  unfold Reg.check
  rw [if_neg (by rw [hn]; simp)]
 have HI : Hid (Reg.inGrid ⟨nm, top, hgt, lft, wid, al, bot⟩ ↔ ((0 ≤ top ∧ top ≤ 14) ∧ (1 ≤ hgt ∧ hgt ≤ 15 - top) ∧ (0 ≤ lft ∧ lft ≤ 31) ∧ (1 ≤ wid ∧ wid ≤ 32 - lft))) := Iff.rfl
 clear hn
 by_cases h0 : top < 0
 · go_enter Tryz.func170, Tryz.ntmps170
   go_wp2_with fail
   refine (RName_any nm _ hs).mono ?_
   rintro e w1 ⟨rfl, hx1⟩
   rw [HN.out]
   have hc := fun o u => hx1.cell (p := ⟨w.heap.size, o, none⟩) (u := u)
   simp at hc
   have hx1' := Lib.hid hx1
   clear hx1
   go_wp2_with fail
   go_ret
   exact ⟨ret_int (by rw [HC.out, if_pos (by rw [HI.out]; omega)]), ((Ext.refl w).alloc _).trans hx1'.out⟩
 by_cases h1 : 14 < top
 · go_enter Tryz.func170, Tryz.ntmps170
   go_wp2_with fail
   refine (RName_any nm _ hs).mono ?_
   rintro e w1 ⟨rfl, hx1⟩
   rw [HN.out]
   have hc := fun o u => hx1.cell (p := ⟨w.heap.size, o, none⟩) (u := u)
   simp at hc
   have hx1' := Lib.hid hx1
   clear hx1
   go_wp2_with fail
   go_ret
   exact ⟨ret_int (by rw [HC.out, if_pos (by rw [HI.out]; omega)]), ((Ext.refl w).alloc _).trans hx1'.out⟩
 by_cases h2 : hgt < 1
 · go_enter Tryz.func170, Tryz.ntmps170
   go_wp2_with fail
   refine (RName_any nm _ hs).mono ?_
   rintro e w1 ⟨rfl, hx1⟩
   rw [HN.out]
   have hc := fun o u => hx1.cell (p := ⟨w.heap.size, o, none⟩) (u := u)
   simp at hc
   have hx1' := Lib.hid hx1
   clear hx1
   go_wp2_with fail
   go_ret
   exact ⟨ret_int (by rw [HC.out, if_pos (by rw [HI.out]; omega)]), ((Ext.refl w).alloc _).trans hx1'.out⟩
 by_cases h3 : 15 - top < hgt
 · go_enter Tryz.func170, Tryz.ntmps170
   go_wp2_with fail
   refine (RName_any nm _ hs).mono ?_
   rintro e w1 ⟨rfl, hx1⟩
   rw [HN.out]
   have hc := fun o u => hx1.cell (p := ⟨w.heap.size, o, none⟩) (u := u)
   simp at hc
   have hx1' := Lib.hid hx1
   clear hx1
   go_wp2_with fail
   go_ret
   exact ⟨ret_int (by rw [HC.out, if_pos (by rw [HI.out]; omega)]), ((Ext.refl w).alloc _).trans hx1'.out⟩
 by_cases h4 : lft < 0
 · go_enter Tryz.func170, Tryz.ntmps170
   go_wp2_with fail
   refine (RName_any nm _ hs).mono ?_
   rintro e w1 ⟨rfl, hx1⟩
   rw [HN.out]
   have hc := fun o u => hx1.cell (p := ⟨w.heap.size, o, none⟩) (u := u)
   simp at hc
   have hx1' := Lib.hid hx1
   clear hx1
   go_wp2_with fail
   go_ret
   exact ⟨ret_int (by rw [HC.out, if_pos (by rw [HI.out]; omega)]), ((Ext.refl w).alloc _).trans hx1'.out⟩
 by_cases h5 : 31 < lft
 · go_enter Tryz.func170, Tryz.ntmps170
   go_wp2_with fail
   refine (RName_any nm _ hs).mono ?_
   rintro e w1 ⟨rfl, hx1⟩
   rw [HN.out]
   have hc := fun o u => hx1.cell (p := ⟨w.heap.size, o, none⟩) (u := u)
   simp at hc
   have hx1' := Lib.hid hx1
   clear hx1
   go_wp2_with fail
   go_ret
   exact ⟨ret_int (by rw [HC.out, if_pos (by rw [HI.out]; omega)]), ((Ext.refl w).alloc _).trans hx1'.out⟩
 by_cases h6 : wid < 1
 · go_enter Tryz.func170, Tryz.ntmps170
   go_wp2_with fail
   refine (RName_any nm _ hs).mono ?_
   rintro e w1 ⟨rfl, hx1⟩
   rw [HN.out]
   have hc := fun o u => hx1.cell (p := ⟨w.heap.size, o, none⟩) (u := u)
   simp at hc
   have hx1' := Lib.hid hx1
   clear hx1
   go_wp2_with fail
   go_ret
   exact ⟨ret_int (by rw [HC.out, if_pos (by rw [HI.out]; omega)]), ((Ext.refl w).alloc _).trans hx1'.out⟩
 by_cases h7 : 32 - lft < wid
 · go_enter Tryz.func170, Tryz.ntmps170
   go_wp2_with fail
   refine (RName_any nm _ hs).mono ?_
   rintro e w1 ⟨rfl, hx1⟩
   rw [HN.out]
   have hc := fun o u => hx1.cell (p := ⟨w.heap.size, o, none⟩) (u := u)
   simp at hc
   have hx1' := Lib.hid hx1
   clear hx1
   go_wp2_with fail
   go_ret
   exact ⟨ret_int (by rw [HC.out, if_pos (by rw [HI.out]; omega)]), ((Ext.refl w).alloc _).trans hx1'.out⟩
 by_cases e1 : al = 1
 · subst e1
   go_enter Tryz.func170, Tryz.ntmps170
   go_wp2_with fail
   refine (RName_any nm _ hs).mono ?_
   rintro e w1 ⟨rfl, hx1⟩
   rw [HN.out]
   have hc := fun o u => hx1.cell (p := ⟨w.heap.size, o, none⟩) (u := u)
   simp at hc
   have hx1' := Lib.hid hx1
   clear hx1
   go_wp2_with fail
   go_ret
   exact ⟨ret_int (by rw [HC.out, if_neg (by rw [HI.out]; omega), if_neg (by omega)]), ((Ext.refl w).alloc _).trans hx1'.out⟩
 have f1 : (al != 1) = true := by simpa using e1
 by_cases e2 : al = 2
 · subst e2
   go_enter Tryz.func170, Tryz.ntmps170
   go_wp2_with fail
   refine (RName_any nm _ hs).mono ?_
   rintro e w1 ⟨rfl, hx1⟩
   rw [HN.out]
   have hc := fun o u => hx1.cell (p := ⟨w.heap.size, o, none⟩) (u := u)
   simp at hc
   have hx1' := Lib.hid hx1
   clear hx1
   go_wp2_with fail
   go_ret
   exact ⟨ret_int (by rw [HC.out, if_neg (by rw [HI.out]; omega), if_neg (by omega)]), ((Ext.refl w).alloc _).trans hx1'.out⟩
 have f2 : (al != 2) = true := by simpa using e2
 by_cases e3 : al = 3
 · subst e3
   go_enter Tryz.func170, Tryz.ntmps170
   go_wp2_with fail
   refine (RName_any nm _ hs).mono ?_
   rintro e w1 ⟨rfl, hx1⟩
   rw [HN.out]
   have hc := fun o u => hx1.cell (p := ⟨w.heap.size, o, none⟩) (u := u)
   simp at hc
   have hx1' := Lib.hid hx1
   clear hx1
   go_wp2_with fail
   go_ret
   exact ⟨ret_int (by rw [HC.out, if_neg (by rw [HI.out]; omega), if_neg (by omega)]), ((Ext.refl w).alloc _).trans hx1'.out⟩
 have f3 : (al != 3) = true := by simpa using e3
 go_enter Tryz.func170, Tryz.ntmps170
 go_wp2_with fail
 refine (RName_any nm _ hs).mono ?_
 rintro e w1 ⟨rfl, hx1⟩
 rw [HN.out]
 have hc := fun o u => hx1.cell (p := ⟨w.heap.size, o, none⟩) (u := u)
 simp at hc
 have hx1' := Lib.hid hx1
 clear hx1
 go_wp2_with fail
 go_ret
 exact ⟨ret_int (by rw [HC.out, if_neg (by rw [HI.out]; omega), if_pos (by omega)]), ((Ext.refl w).alloc _).trans hx1'.out⟩
end
end Go.Proofs.YtablhmobekmflaaGreatDoor