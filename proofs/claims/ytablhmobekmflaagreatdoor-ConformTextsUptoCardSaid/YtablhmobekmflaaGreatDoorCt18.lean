/- Texts laid together. -/
import Derived.Test.YtablhmobekmflaaGreatDoorCt17
import Derived.Test.YtablhmobekmflaaGreatDoorCt15
import Derived.Test.YtablhmobekmflaaGreatDoorCt09
import Derived.Test.YtablhmobekmflaaGreatDoorCt13
import Derived.Test.YtablhmobekmflaaGreatDoorCt10
import Derived.Test.YtablhmobekmflaaGreatDoorCt11
import Derived.Test.YtablhmobekmflaaGreatDoorCt12
set_option linter.unusedVariables false
set_option linter.unusedSimpArgs false
namespace Go.Proofs.YtablhmobekmflaaGreatDoor
section
open Go.RowKit
def CcRel (w : World) (n : Nat) (rate : Int) (drop : Bool) (l : List RDoc) (i : Value) (wr : World) : Prop := ∃ k : Nat, k ≤ n ∧ i = .int .i64 k ∧ Ext w wr ∧ rdLoop rate drop none l = rdLoop rate drop (prevR l k) (l.drop k)
def AdRel (w : World) (m : List Reg) (i : Value) (wr : World) : Prop := ∃ k : Nat, (k < m.length ∨ k = 0) ∧ i = .int .i64 ((k : Int) + 1) ∧ Ext w wr ∧ adjB m = adjB (m.drop k)
theorem regsErr_len {l : List Reg} (h : regsErr l = 0) : l.length ≤ 16 := by
 unfold regsErr at h
 split at h
 · omega
 · omega
theorem rd_1 {rate : Int} {drop : Bool} {p : Option ByteArray} {d : RDoc} (h : nameB d.reel = false) : rdNext rate drop p d = 5 := by unfold rdNext; rw [if_pos h]
theorem rd_2 {rate : Int} {drop : Bool} {p : Option ByteArray} {d : RDoc} (h : nameB d.reel = true) (h2 : (p.map fun q => Op.bytesLess d.reel.toList q.toList || d.reel.toList == q.toList) = some true) : rdNext rate drop p d = 8 := by unfold rdNext; rw [if_neg (by simp [h]), if_pos h2]
theorem rd_3 {rate : Int} {drop : Bool} {p : Option ByteArray} {d : RDoc} (h : nameB d.reel = true) (h2 : ¬ (p.map fun q => Op.bytesLess d.reel.toList q.toList || d.reel.toList == q.toList) = some true) (h3 : d.doc.err ≠ 0) : rdNext rate drop p d = d.doc.err := by unfold rdNext; rw [if_neg (by simp [h]), if_neg h2, if_pos h3]
theorem rd_4 {rate : Int} {drop : Bool} {p : Option ByteArray} {d : RDoc} (h : nameB d.reel = true) (h2 : ¬ (p.map fun q => Op.bytesLess d.reel.toList q.toList || d.reel.toList == q.toList) = some true) (h3 : d.doc.err = 0) (h4 : ¬ (d.doc.rate = rate ∧ d.doc.drop = drop)) : rdNext rate drop p d = 13 := by unfold rdNext; rw [if_neg (by simp [h]), if_neg h2, if_neg (by simpa using h3), if_pos h4]
theorem rd_5 {rate : Int} {drop : Bool} {p : Option ByteArray} {d : RDoc} (h : nameB d.reel = true) (h2 : ¬ (p.map fun q => Op.bytesLess d.reel.toList q.toList || d.reel.toList == q.toList) = some true) (h3 : d.doc.err = 0) (h4 : d.doc.rate = rate ∧ d.doc.drop = drop) : rdNext rate drop p d = 0 := by unfold rdNext; rw [if_neg (by simp [h]), if_neg h2, if_neg (by simpa using h3), if_neg (fun k => k h4)]
theorem adj_cons2 {m : List Reg} {k : Nat} {x y : Reg} (hx : m[k]? = some x) (hy : m[k + 1]? = some y) : adjB (m.drop k) = (decide (nmR y = nmR x) || adjB (m.drop (k + 1))) := by
 rw [drop_at m k x hx, drop_at m (k + 1) y hy]
 rfl
theorem adj_last {m : List Reg} {k : Nat} (h : m.length ≤ k + 1) : adjB (m.drop k) = false := by
 have hl : (m.drop k).length ≤ 1 := by rw [List.length_drop]; omega
 match hm : m.drop k, hl with
 | [], _ => rfl
 | [_], _ => rfl
set_option maxRecDepth 100000 in
set_option maxHeartbeats 16000000 in
theorem ConCheck_any (docs : List RDoc) (A : Option Addr) (n c : Nat) (e : Edl) (B : Option Addr) (m d : Nat) (w : World) (hE : Env w) (hl : RDocsAt w A n docs) (he : CutsAt w B m e.cuts) (hm : m ≤ 1000000) (hok : EdlOk e) (hn : n ≤ 1000000) (hf : RDocsFit docs) :
 Calls Tryz.prog 24 #[.slice A n c, .agg (e.cells B m d)] w fun en w' => en = .returned (.int .i64 (conErr docs e)) ∧ Ext w w' := by
 have HL := Lib.hid hl
 have HLn := Lib.hid hl.len
 have HEnv := Lib.hid hE
 have HFit := Lib.hid hf
 have HX := Lib.hid ((Ext.refl w).alloc (.cells (e.cells B m d) 28))
 have HB0 := Lib.hid (Blk.new w 28 (e.cells B m d))
 have HCk := Lib.hid (fun w' (hx : Ext w w') => Check_any e B m d w' (hE.ext hx) (he.ext hx) hm hok.r0 hok.r1 hok.title hok.fits)
 have HRg := Lib.hid (fun w' (hx : Ext w w') (h16 : n ≤ 16) (hr : ∀ d ∈ docs, d.doc.regs.length ≤ 16) => Regions_any A n c docs w' (hl.ext hx) h16 hr)
 have HF : Hid (conErr docs e = if edlErr e ≠ 0 then edlErr e else if 16 < docs.length then 9 else if rdLoop e.rate e.drop none docs ≠ 0 then rdLoop e.rate e.drop none docs else regE (allR docs)) := rfl
 rw [hl.len] at HF
 clear hl he hok hE hf
 unfold Edl.cells at *
 go_enter Tryz.func24, Tryz.ntmps24
 go_wp2_with (refine wpList_loadB rfl 28 (.tmp 3) rfl w.heap.size 28 _ _ (by exact rfl) (by exact HB0.out) Tryz.underlying28 rfl (by exact size_list) ?_)
 refine (HCk.out _ HX.out).mono ?_
 rintro en w1 ⟨rfl, hx1⟩
 have HX1 := Lib.hid (HX.out.trans hx1)
 have HBl := Lib.hid (HB0.out.ext hx1)
 clear hx1 HB0 HX HCk
 by_cases hee : edlErr e = 0
 case neg =>
  have hne : (edlErr e != 0) = true := by simpa using hee
  have HZ := Lib.hid (HF.out.trans (if_pos hee))
  clear hee
  go_wp2_with fail
  go_ret
  exact ⟨ret_int HZ.out.symm, HX1.out⟩
 have HF1 := Lib.hid (HF.out.trans (if_neg (by simpa using hee)))
 rw [hee]
 clear hee HF
 by_cases h16 : 16 < n
 · have g1 : decide ((n : Int) > 16) = true := by simp; omega
   have g2 : decide ((16 : Int) < n) = true := by simp; omega
   have HZ := Lib.hid (HF1.out.trans (if_pos h16))
   clear h16
   go_wp2_with fail
   go_ret
   exact ⟨ret_int HZ.out.symm, HX1.out⟩
 have g1 : decide ((n : Int) > 16) = false := by simp; omega
 have g2 : decide ((16 : Int) < n) = false := by simp; omega
 have HF2 := Lib.hid (HF1.out.trans (if_neg h16))
 clear HF1
 go_wp2_with fail
 clear g1 g2
 go_loopw [21] (fun i wr => CcRel w1 n e.rate e.drop docs i wr) (fun i _ => n - (intOf i).toNat)
 case atStart => exact ⟨0, Nat.zero_le _, rfl, Ext.refl _, by simp [prevR]⟩
 case round =>
  obtain ⟨k, hk, rfl, hx, hp⟩ := hrel
  have HXr := Lib.hid hx
  have HP := Lib.hid hp
  clear hx hp
  by_cases hlt : k < n
  · obtain ⟨b, off, x, h, rfl, hxk, hat, hsz, c0, c1, c2, c3, c4, c5, c6, c7, c8⟩ := (HL.out.ext (HX1.out.trans HXr.out)).at9 hlt
    obtain ⟨ra, rn, rc, ea, en, ec, ca, cn, cc⟩ := h
    have HS := Lib.hid (rd_step hxk HP.out)
    have hmem := List.mem_of_getElem? hxk
    have HNm := Lib.hid (fun w' => Name_any x.reel w' (HFit.out.reel x hmem))
    have hr1 := hsz.r
    have hr2 := hsz.e
    have hr3 := hsz.c
    dsimp only at hr1 hr2 hr3
    have HDc := Lib.hid (fun w' (hx : Ext wr w') => DCheck_any x.doc ⟨ra, rn, rc, ea, en, ec, ca, cn, cc⟩ w' (HEnv.out.ext ((HX1.out.trans HXr.out).trans hx)) (hat.ext hx) (HFit.out.doc x hmem) (by dsimp only; omega) (by dsimp only; omega) (by dsimp only; omega))
    have HPr : Hid (∀ j, k = j + 1 → ∃ y, docs[j]? = some y ∧ prevR docs k = some y.reel) := fun j hj => by
     subst hj
     obtain ⟨y, hy⟩ := getElem_ltq (l := docs) (p := j) (by have := HLn.out; omega)
     exact ⟨y, hy, by simp [prevR, hy]⟩
    have HBd := Lib.hid (Blk.new wr 58 (x.cells ⟨ra, rn, rc, ea, en, ec, ca, cn, cc⟩))
    have HXd := Lib.hid ((Ext.refl wr).alloc (.cells (x.cells ⟨ra, rn, rc, ea, en, ec, ca, cn, cc⟩) 58))
    clear hxk hat hsz hmem
    unfold RDoc.cells at HBd HXd
    unfold Doc.cells at HDc
    dsimp only at HBd HXd HDc
    have hdc := fun o => HBd.out.cell o
    go_wp2_with fail
    refine (HNm.out _).mono ?_
    rintro e1 w2 ⟨rfl, rfl⟩
    cases hnm : nameB x.reel with
    | false =>
     have HZ := Lib.hid (HS.out.1 (by rw [rd_1 hnm]; decide))
     have HZ2 : Hid (rdNext e.rate e.drop (prevR docs k) x = 5) := rd_1 hnm
     go_wp2_with fail
     go_ret
     exact ⟨ret_int (by rw [HF2.out, if_pos (by rw [HZ.out, HZ2.out]; decide), HZ.out, HZ2.out]), (HX1.out.trans HXr.out).trans HXd.out⟩
    | true =>
     obtain ⟨gx, hgx⟩ : ∃ gx, gx = wr.heap.size := ⟨_, rfl⟩
     obtain ⟨w2, hw2⟩ : ∃ w2, w2 = wr.alloc (.cells #[.string x.reel, .string x.doc.title, .string x.doc.lang, .int .u8 x.doc.rate, .bool x.doc.drop, .int .i64 x.doc.last, .slice ra rn rc, .slice ea en ec, .slice ca cn cc] 58) := ⟨_, rfl⟩
     rw [← hgx] at HBd
     rw [← hw2] at HBd HXd ⊢
     rw [← hgx]
     clear hw2 hgx hdc c0 c1 c2 c3 c4 c5 c6 c7 c8
     have HNm2 := Lib.hid hnm
     clear hnm
     have hdc := fun o => HBd.out.cell o
     by_cases hk0 : 0 < k
     · obtain ⟨j, rfl⟩ : ∃ j, k = j + 1 := ⟨k - 1, by omega⟩
       obtain ⟨b', off', y, h', hA, hyk, -, -, p0, -⟩ := (HL.out.ext ((HX1.out.trans HXr.out).trans HXd.out)).at9 (i := j) (by omega)
       cases hA
       have HPy : Hid (prevR docs (j + 1) = some y.reel) := by show _ = _; simp [prevR, hyk]
       have g8 : decide (((j : Int) + 1) > 0) = true := decide_eq_true (by omega)
       have g8' : decide ((0 : Int) < (j : Int) + 1) = true := decide_eq_true (by omega)
       clear hyk
       cases hlq : (Op.bytesLess x.reel.toList y.reel.toList || x.reel.toList == y.reel.toList) with
       | true =>
        have HZ2 : Hid (rdNext e.rate e.drop (prevR docs (j + 1)) x = 8) := rd_2 HNm2.out (by rw [HPy.out]; simpa using hlq)
        have HZ := Lib.hid (HS.out.1 (by rw [HZ2.out]; decide))
        go_wp2_with fail
        go_quiet (fail)
        go_wp2_with fail
        go_ret
        exact ⟨ret_int (by rw [HF2.out, if_pos (by rw [HZ.out, HZ2.out]; decide), HZ.out, HZ2.out]), ((HX1.out.trans HXr.out).trans HXd.out).drewN _⟩
       | false =>
        have HNo : Hid (¬ ((prevR docs (j + 1)).map fun q => Op.bytesLess x.reel.toList q.toList || x.reel.toList == q.toList) = some true) := by show ¬ _; rw [HPy.out]; simpa using hlq
        go_wp2_with fail
        go_quiet (fail)
        go_wp2_with fail
        refine (HDc.out _ (HXd.out.drewN _)).mono ?_
        rintro e2 w3 ⟨rfl, hx3⟩
        have HX3 := Lib.hid ((HXd.out.drewN _).trans hx3)
        have HB3 := Lib.hid ((HBd.out.ext ((Ext.refl w2).drewN _)).ext hx3)
        have HBl3 := Lib.hid ((HBl.out.ext HXr.out).ext HX3.out)
        clear hx3 hdc
        by_cases hde : x.doc.err = 0
        case neg =>
         have hdn : (x.doc.err != 0) = true := by simpa using hde
         have HZ2 : Hid (rdNext e.rate e.drop (prevR docs (j + 1)) x = x.doc.err) := rd_3 HNm2.out HNo.out hde
         have HZ := Lib.hid (HS.out.1 (by rw [HZ2.out]; exact hde))
         have HR : Hid (conErr docs e = x.doc.err) := HF2.out.trans ((if_pos (by rw [HZ.out, HZ2.out]; exact hde)).trans (HZ.out.trans HZ2.out))
         clear hde
         go_wp2_with fail
         go_ret
         exact ⟨ret_int HR.out.symm, (HX1.out.trans HXr.out).trans HX3.out⟩
        rw [hde]
        have HDe := Lib.hid hde
        clear hde
        have hdc := fun o => HB3.out.cell o
        have hbl := fun o => HBl3.out.cell o
        by_cases hra : x.doc.rate = e.rate
        case neg =>
         have hdn : (x.doc.rate != e.rate) = true := by simpa using hra
         have HZ2 : Hid (rdNext e.rate e.drop (prevR docs (j + 1)) x = 13) := rd_4 HNm2.out HNo.out HDe.out (fun h => hra h.1)
         have HZ := Lib.hid (HS.out.1 (by rw [HZ2.out]; decide))
         have HR : Hid (conErr docs e = 13) := HF2.out.trans ((if_pos (by rw [HZ.out, HZ2.out]; decide)).trans (HZ.out.trans HZ2.out))
         clear hra
         go_wp2_with fail
         go_ret
         exact ⟨ret_int HR.out.symm, (HX1.out.trans HXr.out).trans HX3.out⟩
        have hdn : (x.doc.rate != e.rate) = false := by simpa using hra
        by_cases hdr : x.doc.drop = e.drop
        case neg =>
         have hdn2 : (x.doc.drop == e.drop) = false := by simpa using hdr
         have HZ2 : Hid (rdNext e.rate e.drop (prevR docs (j + 1)) x = 13) := rd_4 HNm2.out HNo.out HDe.out (fun h => hdr h.2)
         have HZ := Lib.hid (HS.out.1 (by rw [HZ2.out]; decide))
         have HR : Hid (conErr docs e = 13) := HF2.out.trans ((if_pos (by rw [HZ.out, HZ2.out]; decide)).trans (HZ.out.trans HZ2.out))
         clear hra hdr
         go_wp2_with fail
         go_ret
         exact ⟨ret_int HR.out.symm, (HX1.out.trans HXr.out).trans HX3.out⟩
        have hdn2 : (x.doc.drop == e.drop) = true := by simpa using hdr
        have HZ2 := Lib.hid (HS.out.2 (rd_5 HNm2.out HNo.out HDe.out ⟨hra, hdr⟩))
        clear hra hdr
        go_wp2_with fail
        exact ⟨⟨j + 1 + 1, by omega, by go_num, HXr.out.trans HX3.out, HZ2.out⟩, by simp [intOf]; omega⟩
     · have hk00 : k = 0 := by omega
       subst hk00
       have HNo : Hid (¬ ((prevR docs 0).map fun q => Op.bytesLess x.reel.toList q.toList || x.reel.toList == q.toList) = some true) := by show ¬ _; simp [prevR]
       go_wp2_with fail
       go_quiet (fail)
       go_wp2_with fail
       refine (HDc.out _ (HXd.out.drewN _)).mono ?_
       rintro e2 w3 ⟨rfl, hx3⟩
       have HX3 := Lib.hid ((HXd.out.drewN _).trans hx3)
       have HB3 := Lib.hid ((HBd.out.ext ((Ext.refl w2).drewN _)).ext hx3)
       have HBl3 := Lib.hid ((HBl.out.ext HXr.out).ext HX3.out)
       clear hx3 hdc
       by_cases hde : x.doc.err = 0
       case neg =>
        have hdn : (x.doc.err != 0) = true := by simpa using hde
        have HZ2 : Hid (rdNext e.rate e.drop (prevR docs 0) x = x.doc.err) := rd_3 HNm2.out HNo.out hde
        have HZ := Lib.hid (HS.out.1 (by rw [HZ2.out]; exact hde))
        have HR : Hid (conErr docs e = x.doc.err) := HF2.out.trans ((if_pos (by rw [HZ.out, HZ2.out]; exact hde)).trans (HZ.out.trans HZ2.out))
        clear hde
        go_wp2_with fail
        go_ret
        exact ⟨ret_int HR.out.symm, (HX1.out.trans HXr.out).trans HX3.out⟩
       rw [hde]
       have HDe := Lib.hid hde
       clear hde
       have hdc := fun o => HB3.out.cell o
       have hbl := fun o => HBl3.out.cell o
       by_cases hra : x.doc.rate = e.rate
       case neg =>
        have hdn : (x.doc.rate != e.rate) = true := by simpa using hra
        have HZ2 : Hid (rdNext e.rate e.drop (prevR docs 0) x = 13) := rd_4 HNm2.out HNo.out HDe.out (fun h => hra h.1)
        have HZ := Lib.hid (HS.out.1 (by rw [HZ2.out]; decide))
        have HR : Hid (conErr docs e = 13) := HF2.out.trans ((if_pos (by rw [HZ.out, HZ2.out]; decide)).trans (HZ.out.trans HZ2.out))
        clear hra
        go_wp2_with fail
        go_ret
        exact ⟨ret_int HR.out.symm, (HX1.out.trans HXr.out).trans HX3.out⟩
       have hdn : (x.doc.rate != e.rate) = false := by simpa using hra
       by_cases hdr : x.doc.drop = e.drop
       case neg =>
        have hdn2 : (x.doc.drop == e.drop) = false := by simpa using hdr
        have HZ2 : Hid (rdNext e.rate e.drop (prevR docs 0) x = 13) := rd_4 HNm2.out HNo.out HDe.out (fun h => hdr h.2)
        have HZ := Lib.hid (HS.out.1 (by rw [HZ2.out]; decide))
        have HR : Hid (conErr docs e = 13) := HF2.out.trans ((if_pos (by rw [HZ.out, HZ2.out]; decide)).trans (HZ.out.trans HZ2.out))
        clear hra hdr
        go_wp2_with fail
        go_ret
        exact ⟨ret_int HR.out.symm, (HX1.out.trans HXr.out).trans HX3.out⟩
       have hdn2 : (x.doc.drop == e.drop) = true := by simpa using hdr
       have HZ2 := Lib.hid (HS.out.2 (rd_5 HNm2.out HNo.out HDe.out ⟨hra, hdr⟩))
       clear hra hdr
       go_wp2_with fail
       exact ⟨⟨0 + 1, by omega, by go_num, HXr.out.trans HX3.out, HZ2.out⟩, by simp [intOf]; omega⟩
  · have hkn : k = n := by omega
    subst hkn
    have hr0 : rdLoop e.rate e.drop none docs = 0 := by rw [HP.out, List.drop_eq_nil_of_le (by have := HLn.out; omega)]; rfl
    have HF3 := Lib.hid (HF2.out.trans (if_neg (by simpa using hr0)))
    have HRg2 := Lib.hid (HRg.out wr (HX1.out.trans HXr.out) (by omega) (fun d hd => regsErr_len (doc_ok (rd_all hr0 d hd).2.1).2.1))
    have HR16 : Hid (∀ d ∈ docs, d.doc.regs.length ≤ 16) := fun d hd => regsErr_len (doc_ok (rd_all hr0 d hd).2.1).2.1
    clear hr0 HRg
    go_wp2_with fail
    refine HRg2.out.mono ?_
    rintro e5 w5 ⟨v, m', rfl, hp, hs, ho, hx5⟩
    have HX5 := Lib.hid ((HX1.out.trans HXr.out).trans hx5)
    have HSm := Lib.hid (regs_same hp hs)
    have hpl := hp.length_eq
    have hul : (uqR (allR docs)).length ≤ 256 := by
     have h1 := allR_len (l := docs) HR16.out
     have h2 := uqR_len (allR docs)
     have := HLn.out
     omega
    obtain ⟨A', c', rfl, hc', hRA⟩ := own_regs ho
    have HRA := Lib.hid hRA
    have HLm := Lib.hid hRA.len
    clear hp hs ho hx5 HRg2 hRA
    obtain ⟨z, hz⟩ : ∃ z, z = m'.length := ⟨_, rfl⟩
    rw [← hz]
    have HZl := Lib.hid hz
    rw [← hz] at HRA
    clear hz
    have hz16 : z ≤ 256 := by rw [HZl.out, hpl]; exact hul
    go_wp2_with fail
    go_loopw [10] (fun i wr => AdRel w5 m' i wr) (fun i _ => z - (intOf i).toNat)
    case atStart => exact ⟨0, .inr rfl, rfl, Ext.refl _, by simp⟩
    case round =>
     obtain ⟨k, hk, rfl, hx, ha⟩ := hrel
     have HXk := Lib.hid hx
     have HA := Lib.hid ha
     clear hx ha
     by_cases hkz : k + 1 < z
     · have g1 : decide ((k : Int) + 1 < (z : Int)) = true := decide_eq_true (by omega)
       obtain ⟨b, off, x, rfl, hx, c0, -⟩ := (HRA.out.ext HXk.out).at_ (i := k) (by omega)
       obtain ⟨b', off', y, hA', hy, d0, -⟩ := (HRA.out.ext HXk.out).at_ (i := k + 1) hkz
       cases hA'
       have HC := Lib.hid (adj_cons2 hx hy)
       unfold nmR at HC
       clear hx hy
       by_cases hq : y.name.toList = x.name.toList
       · have g2 : (y.name.toList == x.name.toList) = true := by simpa using hq
         have HT : Hid (regE (allR docs) = 16) := by
          show _ = _
          rcases HSm.out with ⟨-, h⟩ | ⟨h, -⟩
          · unfold regE; rw [h]
          · rw [HA.out, HC.out, decide_eq_true hq] at h; simp at h
         clear hq
         go_wp2_with fail
         go_quiet (fail)
         go_wp2_with fail
         go_ret
         exact ⟨ret_int (by rw [HF3.out, HT.out]), (HX5.out.trans HXk.out).drewN _⟩
       · have g2 : (y.name.toList == x.name.toList) = false := by simpa using hq
         have HT : Hid (adjB m' = adjB (m'.drop (k + 1))) := by show _ = _; rw [HA.out, HC.out, decide_eq_false hq]; rfl
         clear hq
         go_wp2_with fail
         go_quiet (fail)
         go_wp2_with fail
         exact ⟨⟨k + 1, .inl (by have := HZl.out; omega), by go_num, HXk.out.drewN _, HT.out⟩, by simp [intOf]; omega⟩
     · have g1 : decide ((k : Int) + 1 < (z : Int)) = false := decide_eq_false (by omega)
       have HAf : Hid (adjB m' = false) := by show _ = _; rw [HA.out]; exact adj_last (by have := HZl.out; omega)
       have HT : Hid (regE (allR docs) = if 16 < z then 9 else 0) := by
        show _ = _
        rcases HSm.out with ⟨h, -⟩ | ⟨-, h, -⟩
        · rw [HAf.out] at h; cases h
        · unfold regE; rw [h, HZl.out]
       by_cases hz2 : 16 < z
       · have g3 : decide ((z : Int) > 16) = true := decide_eq_true (by omega)
         have g4 : decide ((16 : Int) < z) = true := decide_eq_true (by omega)
         rw [if_pos hz2] at HT
         clear hz2
         go_wp2_with fail
         go_ret
         exact ⟨ret_int (by rw [HF3.out, HT.out]), HX5.out.trans HXk.out⟩
       · have g3 : decide ((z : Int) > 16) = false := decide_eq_false (by omega)
         have g4 : decide ((16 : Int) < z) = false := decide_eq_false (by omega)
         rw [if_neg hz2] at HT
         clear hz2
         go_wp2_with fail
         go_ret
         exact ⟨ret_int (by rw [HF3.out, HT.out]), HX5.out.trans HXk.out⟩
end
section
open Go.RowKit
theorem lang_all {docs : List RDoc} {s : ByteArray} (h0 : docs = [] → s = ⟨#[]⟩) (h : ∀ d ∈ docs, d.doc.lang = s) : langD docs = s := by
 cases docs with
 | nil => exact (h0 rfl).symm
 | cons d r =>
  have hd := h d (by simp)
  simp only [langD]
  rw [if_pos]
  · exact hd
  · rw [List.all_eq_true]
    intro x hx
    simp [h x (by simp [hx]), hd]
theorem lang_two {docs : List RDoc} {a b : RDoc} (ha : a ∈ docs) (hb : b ∈ docs) (hne : a.doc.lang ≠ b.doc.lang) : langD docs = ⟨#[]⟩ := by
 cases docs with
 | nil => simp at ha
 | cons d r =>
  simp only [langD]
  rw [if_neg]
  intro h
  rw [List.all_eq_true] at h
  have h2 : ∀ x ∈ d :: r, x.doc.lang = d.doc.lang := fun x hx => by
   rcases List.mem_cons.1 hx with rfl | hx
   · rfl
   · simpa using h x hx
  exact hne ((h2 a ha).trans (h2 b hb).symm)
def LgRel (w : World) (n : Nat) (l : List RDoc) (v i : Value) (wr : World) : Prop :=
 ∃ (k : Nat) (s : ByteArray), k ≤ n ∧ i = .int .i64 k ∧ v = .string s ∧ Ext w wr ∧ (k = 0 → s = ⟨#[]⟩) ∧ ∀ d ∈ l.take k, d.doc.lang = s
set_option maxRecDepth 100000 in
set_option maxHeartbeats 4000000 in
theorem Lang_any (A : Option Addr) (n c : Nat) (l : List RDoc) (w : World) (hl : RDocsAt w A n l) (hn : n ≤ 1000000) :
 Calls Tryz.prog 54 #[.slice A n c] w fun e w' => e = .returned (.string (langD l)) ∧ Ext w w' := by
 have HL := Lib.hid hl
 have HLn := Lib.hid hl.len
 clear hl
 go_enter Tryz.func54, Tryz.ntmps54
 go_wp2_with fail
 go_loopw [3, 8] (fun v i wr => LgRel w n l v i wr) (fun _ i _ => n - (intOf i).toNat)
 case atStart => exact ⟨0, ⟨#[]⟩, Nat.zero_le _, rfl, rfl, Ext.refl _, fun _ => rfl, by simp⟩
 case round =>
  obtain ⟨k, s, hk, rfl, rfl, hx, h0, ha⟩ := hrel
  have HX := Lib.hid hx
  have H0 := Lib.hid h0
  have HA := Lib.hid ha
  clear hx h0 ha
  by_cases hlt : k < n
  · obtain ⟨b, off, x, h, rfl, hxk, -, -, c0, c1, c2, c3, c4, c5, c6, c7, c8⟩ := (HL.out.ext HX.out).at9 hlt
    obtain ⟨ra, rn, rc, ea, en, ec, ca, cn, cc⟩ := h
    have HK := Lib.hid hxk
    have HXd := Lib.hid (HX.out.alloc (.cells (x.cells ⟨ra, rn, rc, ea, en, ec, ca, cn, cc⟩) 58))
    unfold RDoc.cells at HXd
    dsimp only at HXd
    clear hxk
    by_cases hk0 : 0 < k
    · have g1 : decide ((k : Int) > 0) = true := decide_eq_true (by omega)
      have g1' : decide ((0 : Int) < (k : Int)) = true := decide_eq_true (by omega)
      by_cases hq : x.doc.lang = s
      · have g2 : (x.doc.lang.toList == s.toList) = true := by rw [hq]; simp
        have HA1 : Hid (∀ d ∈ l.take (k + 1), d.doc.lang = s) := fun d hd => by
         rw [take_snoc' _ _ _ HK.out] at hd
         rcases List.mem_append.1 hd with hd | hd
         · exact HA.out d hd
         · simp at hd; subst hd; exact hq
        have HQ := Lib.hid hq
        clear hq
        go_wp2_with fail
        exact ⟨⟨k + 1, s, by omega, by go_num, by rw [HQ.out], HXd.out, fun h => by omega, HA1.out⟩, by simp [intOf]; omega⟩
      · have g2 : (x.doc.lang.toList == s.toList) = false := by rw [bs_eq]; simpa using hq
        have HR : Hid (langD l = ⟨#[]⟩) := by
         show _ = _
         obtain ⟨y, hy⟩ := getElem_ltq (l := l) (p := 0) (by have := HLn.out; omega)
         have hy1 : y ∈ l.take k := List.mem_of_getElem? (i := 0) (by rw [List.getElem?_take, if_pos hk0]; exact hy)
         exact lang_two (List.mem_of_getElem? HK.out) (List.mem_of_getElem? hy) (by rw [HA.out y hy1]; exact hq)
        clear hq
        go_wp2_with fail
        go_ret
        exact ⟨by rw [HR.out]; rfl, HXd.out⟩
    · have hk00 : k = 0 := by omega
      subst hk00
      simp only [Nat.zero_mul, Nat.add_zero] at c0 c1 c2 c3 c4 c5 c6 c7 c8
      have HA1 : Hid (∀ d ∈ l.take 1, d.doc.lang = x.doc.lang) := fun d hd => by
       have h1 := take_snoc' l 0 _ HK.out
       rw [h1] at hd
       simp at hd; subst hd; rfl
      go_wp2_with fail
      exact ⟨⟨1, x.doc.lang, by omega, by go_num, rfl, HXd.out, fun h => by omega, HA1.out⟩, by simp [intOf]; omega⟩
  · have hkn : k = n := by omega
    subst hkn
    have HR : Hid (langD l = s) := lang_all (fun h => H0.out (by have := HLn.out; rw [h] at this; simpa using this.symm)) (fun d hd => HA.out d (by rwa [List.take_of_length_le (by have := HLn.out; omega)]))
    go_wp2_with fail
    go_ret
    exact ⟨by rw [HR.out]; rfl, HX.out⟩
def LrRel (w : World) (n : Nat) (l : List RDoc) (s : ByteArray) (i : Value) (wr : World) : Prop := ∃ k : Nat, k ≤ n ∧ i = .int .i64 k ∧ Ext w wr ∧ ∀ d ∈ l.take k, d.doc.lang = s
def ixD (l : List RDoc) (s : ByteArray) : Int := match findRd l s with | some k => (k : Int) | none => -1
theorem ixD_step {l : List RDoc} {k : Nat} {x : RDoc} {s : ByteArray} (hx : l[k]? = some x) (hp : ∀ y ∈ l.take k, y.reel ≠ s) : (x.reel = s → ixD l s = k) ∧ (x.reel ≠ s → ∀ y ∈ l.take (k + 1), y.reel ≠ s) := by
 obtain ⟨hk, hxk⟩ := List.getElem?_eq_some_iff.1 hx
 refine ⟨fun h => ?_, fun h y hy => ?_⟩
 · have : findRd l s = some k := List.findIdx?_eq_some_iff_getElem.2 ⟨hk, by simp [hxk, h], fun j hj => by
    have := hp l[j] (List.mem_take_iff_getElem.2 ⟨j, by omega, rfl⟩)
    simp [this]⟩
   unfold ixD
   rw [this]
 · rw [take_snoc' _ _ _ hx] at hy
   rcases List.mem_append.1 hy with hy | hy
   · exact hp y hy
   · simp at hy; subst hy; exact h
theorem ixD_none {l : List RDoc} {s : ByteArray} (hp : ∀ y ∈ l, y.reel ≠ s) : ixD l s = -1 := by
 unfold ixD findRd
 rw [List.findIdx?_eq_none_iff.2 (fun y hy => by simpa using hp y hy)]
def PlRel (w : World) (n : Nat) (l : List RDoc) (s : ByteArray) (i : Value) (wr : World) : Prop := ∃ k : Nat, k ≤ n ∧ i = .int .i64 k ∧ Ext w wr ∧ ∀ y ∈ l.take k, y.reel ≠ s
set_option maxHeartbeats 1000000 in
theorem Conform1_any (x : RDoc) (h : DocH) (g : Nat) (c : Cut) (w : World) (hB : Blk w g 91 c.cells) :
 Calls Tryz.prog 57 #[.agg (x.cells h), .pointer (some ⟨g, 0, none⟩)] w fun e w' => e = .returned (.bool (x.reel.toList == c.reel.toList)) ∧ Ext w w' := by
 have HX := Lib.hid ((Ext.refl w).alloc (.cells (x.cells h) 58))
 have hg : ∀ o, (w.alloc o).cell? ⟨g, 1, none⟩ = some (.string c.reel) := fun o => (hB.alloc o).cell 1
 have hlt := hB.lt
 clear hB
 unfold RDoc.cells at *
 go_enter Tryz.func57, Tryz.ntmps57
 go_wp2_with fail
 go_ret
 exact ⟨rfl, HX.out⟩
set_option maxRecDepth 100000 in
set_option maxHeartbeats 4000000 in
theorem IndexDoc_any (A : Option Addr) (n cp : Nat) (l : List RDoc) (g : Nat) (c : Cut) (w : World) (hl : RDocsAt w A n l) (hn : n ≤ 1000000) (hB : Blk w g 91 c.cells) :
 Calls Tryz.prog 56 #[.slice A n cp, .func (.func 57) #[] #[.pointer (some ⟨g, 0, none⟩)]] w fun e w' => e = .returned (.int .i64 (ixD l c.reel)) ∧ Ext w w' := by
 have HL := Lib.hid hl
 have HLn := Lib.hid hl.len
 have HBg := Lib.hid hB
 clear hl hB
 go_enter Tryz.func56, Tryz.ntmps56
 go_wp2_with fail
 go_loopw [8] (fun i wr => PlRel w n l c.reel i wr) (fun i _ => n - (intOf i).toNat)
 case atStart => exact ⟨0, Nat.zero_le _, rfl, Ext.refl _, by simp⟩
 case round =>
  obtain ⟨k, hk, rfl, hx, hp⟩ := hrel
  have HX := Lib.hid hx
  have HP := Lib.hid hp
  clear hx hp
  by_cases hlt : k < n
  · obtain ⟨b, off, x, h, rfl, hxk, -, -, c0, c1, c2, c3, c4, c5, c6, c7, c8⟩ := (HL.out.ext HX.out).at9 hlt
    have HS := Lib.hid (ixD_step hxk HP.out)
    have HCl := Lib.hid (Conform1_any x h g c wr (HBg.out.ext HX.out))
    obtain ⟨ra, rn, rc, ea, en, ec, ca, cn, cc⟩ := h
    unfold RDoc.cells at HCl
    dsimp only at HCl
    clear hxk
    by_cases hq : x.reel = c.reel
    · have g2 : (x.reel.toList == c.reel.toList) = true := by rw [hq]; simp
      have HT := Lib.hid (HS.out.1 hq)
      rw [g2] at HCl
      clear hq g2
      go_wp2_with fail
      refine HCl.out.mono ?_
      rintro en' w2 ⟨rfl, hx2⟩
      go_wp2_with fail
      go_ret
      exact ⟨ret_int HT.out.symm, HX.out.trans hx2⟩
    · have g2 : (x.reel.toList == c.reel.toList) = false := by rw [bs_eq]; simpa using hq
      have HT := Lib.hid (HS.out.2 hq)
      rw [g2] at HCl
      clear hq g2
      go_wp2_with fail
      refine HCl.out.mono ?_
      rintro en' w2 ⟨rfl, hx2⟩
      go_wp2_with fail
      exact ⟨⟨k + 1, by omega, by go_num, HX.out.trans hx2, HT.out⟩, by simp [intOf]; omega⟩
  · have hkn : k = n := by omega
    subst hkn
    have HT : Hid (ixD l c.reel = -1) := ixD_none (fun y hy => HP.out y (by rwa [List.take_of_length_le (by have := HLn.out; omega)]))
    go_wp2_with fail
    go_ret
    exact ⟨ret_int HT.out.symm, HX.out⟩
end
section
open Go.RowKit
def InT (l : List Spn) : Prop := ∀ s ∈ l, 0 ≤ s.inn ∧ s.out ≤ maxT
def IdxRel (w : World) (n : Nat) (i : Value) (wr : World) : Prop := ∃ k : Nat, k ≤ n ∧ i = .int .i64 k ∧ Ext w wr
set_option maxRecDepth 100000 in
set_option maxHeartbeats 4000000 in
theorem SCheck_ok (A : Option Addr) (n c : Nat) (l : List Spn) (w : World) (hl : SpnsAt w A n l) (hok : SetOk l) (hb : InT l) (hn : n ≤ 400) :
 Calls Tryz.prog 183 #[.slice A n c] w fun e w' => e = .returned (.int .i64 0) ∧ Ext w w' := by
 have HL := Lib.hid hl
 have HOk := Lib.hid hok
 have HBd := Lib.hid hb
 have hb : decide ((n : Int) > 400) = false := by simp; omega
 have hb2 : decide ((400 : Int) < n) = false := by simp; omega
 clear hl hok
 go_enter Tryz.func183, Tryz.ntmps183
 go_wp2_with fail
 clear hb hb2
 go_loopw [10] (fun i wr => IdxRel w n i wr) (fun i _ => n - (intOf i).toNat)
 case atStart => exact ⟨0, Nat.zero_le _, rfl, Ext.refl _⟩
 case round =>
  obtain ⟨k, hk, rfl, hx⟩ := hrel
  have HX := Lib.hid hx
  clear hx
  by_cases hlt : k < n
  case neg =>
   have hkn : k = n := by omega
   subst hkn
   go_wp2_with fail
   go_ret
   exact ⟨rfl, HX.out⟩
  obtain ⟨b, off, x, rfl, hxk, hC⟩ := (HL.out.ext HX.out).at_ hlt
  have c0 := hC 0 _ rfl
  have c1 := hC 1 _ rfl
  simp only [Nat.add_zero] at c0
  have hf := HOk.out.1 x (List.mem_of_getElem? hxk)
  have hr := HBd.out x (List.mem_of_getElem? hxk)
  unfold maxT at hr
  have HPr : Hid (∀ j y, k = j + 1 → l[j]? = some y → ¬ x.inn ≤ y.out) := fun j y hj hy => by
   subst hj
   have h1 := List.pairwise_iff_getElem.1 HOk.out.2 j (j + 1) (List.getElem?_eq_some_iff.1 hy).1 (List.getElem?_eq_some_iff.1 hxk).1 (by omega)
   rw [(List.getElem?_eq_some_iff.1 hy).2, (List.getElem?_eq_some_iff.1 hxk).2] at h1
   omega
  have g1 : decide (x.inn ≥ x.out) = false := by simp; omega
  have g1' : decide (x.out ≤ x.inn) = false := by simp; omega
  have g2 : decide (x.inn < 0) = false := by simp; omega
  have g3 : decide (x.out > 10378368000) = false := by simp; omega
  have g3' : decide (10378368000 < x.out) = false := by simp; omega
  have HXx := Lib.hid ((Ext.refl wr).alloc (.cells #[.int .i64 x.inn, .int .i64 x.out] 60))
  clear hC hxk hf hr
  by_cases hk0 : 0 < k
  · obtain ⟨b', off', y, hA, hyk, hD⟩ := (HL.out.ext (HX.out.trans HXx.out)).at_ (i := k - 1) (by omega)
    cases hA
    have d1 := hD 1 _ rfl
    have hny := HPr.out (k - 1) y (by omega) hyk
    have g7 : decide (x.inn ≤ y.out) = false := by simpa using hny
    have g8 : decide ((k : Int) > 0) = true := by simp; omega
    have g8' : decide ((0 : Int) < k) = true := by simp; omega
    obtain ⟨j, rfl⟩ : ∃ j, k = j + 1 := ⟨k - 1, by omega⟩
    simp only [Nat.add_sub_cancel] at d1
    clear hD hyk hny
    go_wp2_with fail
    go_quiet (fail)
    go_wp2_with fail
    exact ⟨⟨j + 1 + 1, by omega, by go_num, (HX.out.trans HXx.out).drewN _⟩, by simp [intOf]; omega⟩
  · have hk00 : k = 0 := by omega
    subst hk00
    simp only [Nat.zero_mul, Nat.add_zero] at c0 c1
    go_wp2_with fail
    go_quiet (fail)
    go_wp2_with fail
    exact ⟨⟨0 + 1, by omega, by go_num, (HX.out.trans HXx.out).drewN _⟩, by simp [intOf]; omega⟩
theorem blk_grown {w w' : World} {o : Obj} {row : Option Nat} {g : Nat} {T : TypeId} {cs : Array Value} (h : Blk w g T cs) (hg : (w.alloc o).grownBy w' row) (hne : row ≠ some g) : Blk w' g T cs :=
 (hg.block g (by have := h.lt; simp; omega) (fun e => hne e.symm)).trans (h.alloc o)
def gapS (a : Int) (s : Spn) : List Spn := if a < s.inn then [⟨a, s.inn⟩] else []
def restT : Int → List Spn → List Spn
 | _, [] => []
 | a, s :: l => gapS a s ++ restT s.out l
def endT : Int → List Spn → Int
 | a, [] => a
 | _, s :: l => endT s.out l
theorem restF_T : ∀ (a : Int) (l : List Spn), restF a l = restT a l ++ [⟨endT a l, maxT + 1⟩]
 | a, [] => rfl
 | a, s :: l => by unfold restF restT endT gapS; rw [restF_T, List.append_assoc]
theorem restT_snoc : ∀ (a : Int) (l : List Spn) (x : Spn), restT a (l ++ [x]) = restT a l ++ gapS (endT a l) x ∧ endT a (l ++ [x]) = x.out
 | a, [], x => by simp [restT, endT]
 | a, s :: l, x => by
  obtain ⟨h1, h2⟩ := restT_snoc s.out l x
  simp only [List.cons_append, restT, endT]
  exact ⟨by rw [h1, List.append_assoc], h2⟩
theorem restT_len : ∀ (a : Int) (l : List Spn), (restT a l).length ≤ l.length
 | a, [] => by simp [restT]
 | a, s :: l => by
  have := restT_len s.out l
  unfold restT gapS
  split <;> simp <;> omega
def RsRel (w : World) (n : Nat) (l : List Spn) (v v4 i : Value) (wr : World) : Prop :=
 ∃ k : Nat, k ≤ n ∧ i = .int .i64 k ∧ v4 = .int .i64 (endT 0 (l.take k)) ∧ Ext w wr ∧ wr.ownsRow w.heap.size 60 2 v (restT 0 (l.take k)).length ((restT 0 (l.take k)).flatMap Spn.vals)
set_option maxRecDepth 100000 in
set_option maxHeartbeats 4000000 in
theorem Rest_any (A : Option Addr) (n c : Nat) (l : List Spn) (w : World) (hl : SpnsAt w A n l) (hn : n ≤ 1000000) :
 Calls Tryz.prog 182 #[.slice A n c] w (SpnsPost (restF 0 l) w) := by
 have HL := Lib.hid hl
 have HLn := Lib.hid hl.len
 clear hl
 unfold SpnsPost
 go_enter Tryz.func182, Tryz.ntmps182
 go_wp2_with fail
 go_loopw [3, 4, 9] (fun v v4 i wr => RsRel w n l v v4 i wr) (fun _ _ i _ => n - (intOf i).toNat)
 case atStart => exact ⟨0, Nat.zero_le _, rfl, rfl, Ext.refl _, ⟨rfl, .inl ⟨rfl, rfl⟩⟩⟩
 case round =>
  obtain ⟨k, hk, rfl, rfl, hx, hown⟩ := hrel
  have HX := Lib.hid hx
  have HO := Lib.hid hown
  have hrl : (restT 0 (l.take k)).length ≤ k := by have := restT_len 0 (l.take k); rw [List.length_take] at this; omega
  have hzr := hx.size
  clear hx hown
  by_cases hlt : k < n
  · obtain ⟨b, off, x, rfl, hxk, hC⟩ := (HL.out.ext HX.out).at_ hlt
    have c0 := hC 0 _ rfl
    have c1 := hC 1 _ rfl
    simp only [Nat.add_zero] at c0
    have HS : Hid (restT 0 (l.take (k + 1)) = restT 0 (l.take k) ++ gapS (endT 0 (l.take k)) x ∧ endT 0 (l.take (k + 1)) = x.out) := by rw [take_snoc' _ _ _ hxk]; exact restT_snoc _ _ _
    clear hC hxk
    generalize restT 0 (l.take k) = os at *
    generalize endT 0 (l.take k) = at' at *
    have HX1 := Lib.hid ((Ext.refl wr).alloc (.cells #[.int .i64 x.inn, .int .i64 x.out] 60))
    by_cases hio : at' < x.inn
    · have d1 : decide (at' < x.inn) = true := by simpa using hio
      have HS1 := Lib.hid HS.out.1
      unfold gapS at HS1
      rw [if_pos hio] at HS1
      clear hio
      go_upto_region 7 with fail
      have HO2 := Lib.hid (own_ext HO.out HX1.out)
      have hz2 := HX1.out.size
      have HBx := Lib.hid (Blk.new wr 60 #[.int .i64 x.inn, .int .i64 x.out])
      obtain ⟨W2, hW2⟩ : ∃ W2, W2 = wr.alloc (.cells #[.int .i64 x.inn, .int .i64 x.out] 60) := ⟨_, rfl⟩
      rw [← hW2] at HX1 HO2 hz2 HBx ⊢
      clear hW2
      have b0 := HBx.out.cell 0
      simp only [List.getElem?_toArray, List.getElem?_cons_zero, List.getElem?_cons_succ] at b0
      go_wp2_with (at_builtin; refine wpList_append1 rfl (.tmp 17) (.tmp 22) 35 rfl info_span Tryz.underlying35 rfl (by decide) (HO2.out.alloc _) (by exact rfl) W2.heap.size _ (by exact rfl) (by exact Blk.new' rfl) (by exact rfl) (by simp [Value.oneCell']) (by omega) (by simp [maxLen] <;> omega) (by first | omega | (simp; omega) | simp) ?_; intro v5 w5 hown5 hgr; have HO5 := Lib.hid hown5; have HX5 := Lib.hid (Ext.grown ((HX.out.trans HX1.out).alloc _) hgr (fun q hq => own_lt HO.out q hq)); have b51 := (blk_grown HBx.out hgr (fun e => by have := (own_typed HO.out _ e).lt; omega)).cell 1; simp only [List.getElem?_toArray, List.getElem?_cons_zero, List.getElem?_cons_succ] at b51; clear hown5 hgr)
      exact ⟨⟨k + 1, by omega, by go_num, by rw [HS.out.2], HX5.out, by rw [HS1.out, List.length_append, List.flatMap_append]; exact HO5.out⟩, by simp [intOf]; omega⟩
    · have d1 : decide (at' < x.inn) = false := by simpa using hio
      have HS1 := Lib.hid HS.out.1
      unfold gapS at HS1
      rw [if_neg hio, List.append_nil] at HS1
      clear hio
      go_wp2_with fail
      exact ⟨⟨k + 1, by omega, by go_num, by rw [HS.out.2], HX.out.trans HX1.out, by rw [HS1.out]; exact own_ext HO.out HX1.out⟩, by simp [intOf]; omega⟩
  · have hkn : k = n := by omega
    subst hkn
    have HT : Hid (restF 0 l = restT 0 (l.take k) ++ [⟨endT 0 (l.take k), maxT + 1⟩]) := by show _ = _; rw [List.take_of_length_le (by have := HLn.out; omega)]; exact restF_T _ _
    generalize restT 0 (l.take k) = os at *
    generalize endT 0 (l.take k) = at' at *
    go_wp2_with (at_builtin; refine wpList_append1 rfl (.tmp 27) (.tmp 30) 35 rfl info_span Tryz.underlying35 rfl (by decide) (HO.out.alloc _) (by exact rfl) wr.heap.size _ (by exact rfl) (by exact Blk.new' rfl) (by exact rfl) (by simp [Value.oneCell']) (by omega) (by simp [maxLen] <;> omega) (by first | omega | (simp; omega) | simp) ?_; intro v5 w5 hown5 hgr; have HO5 := Lib.hid hown5; have HX5 := Lib.hid (Ext.grown (HX.out.alloc _) hgr (fun q hq => own_lt HO.out q hq)); clear hown5 hgr)
    go_ret
    have hO : w5.ownsRow w.heap.size 60 2 v5 (restF 0 l).length ((restF 0 l).flatMap Spn.vals) := by rw [HT.out, List.length_append, List.flatMap_append]; exact HO5.out
    obtain ⟨A', c', rfl, hc, _, hS, hfr⟩ := own_sl (f := Spn.vals) (size := 2) (fun _ => rfl) rfl hO
    exact ⟨A', c', rfl, hS, hc, HX5.out, hfr⟩
end
section
open Go.RowKit
def cmS (x y : Spn) : List Spn := if max x.inn y.inn < min x.out y.out then [⟨max x.inn y.inn, min x.out y.out⟩] else []
theorem cmS_yes {x y : Spn} (h : max x.inn y.inn < min x.out y.out) : cmS x y = [⟨max x.inn y.inn, min x.out y.out⟩] := if_pos h
theorem cmS_no {x y : Spn} (h : ¬ max x.inn y.inn < min x.out y.out) : cmS x y = [] := if_neg h
theorem commS_eq (a b : List Spn) : commS a b = a.flatMap fun x => b.flatMap (cmS x) := rfl
theorem commS_snoc (a b : List Spn) (x : Spn) : commS (a ++ [x]) b = commS a b ++ b.flatMap (cmS x) := by rw [commS_eq, commS_eq, List.flatMap_append]; simp
theorem cm_snoc (b : List Spn) (x y : Spn) : (b ++ [y]).flatMap (cmS x) = b.flatMap (cmS x) ++ cmS x y := by rw [List.flatMap_append]; simp
theorem cm_len (b : List Spn) (x : Spn) : (b.flatMap (cmS x)).length ≤ b.length := by
 induction b with
 | nil => simp
 | cons y b ih =>
  rw [List.flatMap_cons, List.length_append]; have : (cmS x y).length ≤ 1 := by unfold cmS; split <;> simp
  simp only [List.length_cons]; omega
theorem comm_len (a b : List Spn) : (commS a b).length ≤ a.length * b.length := by
 induction a with
 | nil => simp [commS_eq]
 | cons x a ih =>
  rw [commS_eq, List.flatMap_cons, List.length_append, ← commS_eq]
  have := cm_len b x
  simp only [List.length_cons, Nat.add_mul, Nat.one_mul]; omega
def Cm1Rel (w : World) (n : Nat) (a b : List Spn) (v i : Value) (wr : World) : Prop :=
 ∃ k : Nat, k ≤ n ∧ i = .int .i64 k ∧ Ext w wr ∧ wr.ownsRow w.heap.size 60 2 v (commS (a.take k) b).length ((commS (a.take k) b).flatMap Spn.vals)
def Cm2Rel (w : World) (g m : Nat) (P b : List Spn) (x : Spn) (v i : Value) (wr : World) : Prop :=
 ∃ j : Nat, j ≤ m ∧ i = .int .i64 j ∧ Ext w wr ∧ Blk wr g 60 #[.int .i64 x.inn, .int .i64 x.out] ∧ v.ownBlock ≠ some g ∧ wr.ownsRow w.heap.size 60 2 v (P ++ (b.take j).flatMap (cmS x)).length ((P ++ (b.take j).flatMap (cmS x)).flatMap Spn.vals)
set_option maxRecDepth 100000 in
set_option maxHeartbeats 8000000 in
theorem Common_any (A : Option Addr) (n c : Nat) (a : List Spn) (B : Option Addr) (m d : Nat) (b : List Spn) (w : World) (ha : SpnsAt w A n a) (hb : SpnsAt w B m b) (hn1 : n ≤ 1000000) (hn : n * m + m ≤ 1000000) :
 Calls Tryz.prog 181 #[.slice A n c, .slice B m d] w (SpnsPost (commS a b) w) := by
 have HA := Lib.hid ha
 have HB := Lib.hid hb
 have HAn := Lib.hid ha.len
 have HBn := Lib.hid hb.len
 clear ha hb
 unfold SpnsPost
 go_enter Tryz.func181, Tryz.ntmps181
 go_wp2_with fail
 go_loopw [5, 13] (fun v i wr => Cm1Rel w n a b v i wr) (fun _ i _ => n - (intOf i).toNat)
 case atStart => exact ⟨0, Nat.zero_le _, rfl, Ext.refl _, ⟨rfl, .inl ⟨rfl, rfl⟩⟩⟩
 case round =>
  obtain ⟨k, hk, rfl, hx, hown⟩ := hrel
  have HX := Lib.hid hx
  have HO := Lib.hid hown
  have hzr := hx.size
  clear hx hown
  by_cases hlt : k < n
  · obtain ⟨bb, off, x, rfl, hxk, hC⟩ := (HA.out.ext HX.out).at_ hlt
    have c0 := hC 0 _ rfl
    have c1 := hC 1 _ rfl
    simp only [Nat.add_zero] at c0
    have HS : Hid (commS (a.take (k + 1)) b = commS (a.take k) b ++ b.flatMap (cmS x)) := by rw [take_snoc' _ _ _ hxk]; exact commS_snoc _ _ _
    have hPl : (commS (a.take k) b).length ≤ n * m := by
     have h1 := comm_len (a.take k) b
     rw [HBn.out, List.length_take] at h1
     exact Nat.le_trans h1 (Nat.mul_le_mul_right _ (by omega))
    clear hC hxk
    generalize commS (a.take k) b = P at *
    have HBx := Lib.hid (Blk.new wr 60 #[.int .i64 x.inn, .int .i64 x.out])
    have HX1 := Lib.hid (HX.out.alloc (.cells #[.int .i64 x.inn, .int .i64 x.out] 60))
    have HO1 := Lib.hid (HO.out.alloc (.cells #[.int .i64 x.inn, .int .i64 x.out] 60))
    have HNe : Hid (u5.ownBlock ≠ some wr.heap.size) := fun e => by have := (own_typed HO.out _ e).lt; omega
    go_upto_region 5 with fail
    obtain ⟨gx, hgx⟩ : ∃ gx, gx = wr.heap.size := ⟨_, rfl⟩
    rw [← hgx] at HBx HNe ⊢
    obtain ⟨w1, hw1⟩ : ∃ w1, w1 = wr.alloc (.cells #[.int .i64 x.inn, .int .i64 x.out] 60) := ⟨_, rfl⟩
    rw [← hw1] at HBx HX1 HO1 ⊢
    clear hw1 hgx c0 c1 HO
    go_wp2_with fail
    go_loopw [5, 19] (fun v i wq => Cm2Rel w gx m P b x v i wq) (fun _ i _ => m - (intOf i).toNat)
    case atStart => exact ⟨0, Nat.zero_le _, rfl, HX1.out, HBx.out, HNe.out, by simpa using HO1.out⟩
    case round =>
     obtain ⟨j, hj, rfl, hxq, hbq, hne, hown⟩ := hrel
     have HXq := Lib.hid hxq
     have HOq := Lib.hid hown
     have HBq := Lib.hid hbq
     have HNq := Lib.hid hne
     have hzq := hxq.size
     have hql : (P ++ (b.take j).flatMap (cmS x)).length ≤ n * m + j := by have := cm_len (b.take j) x; rw [List.length_take] at this; rw [List.length_append]; omega
     clear hxq hown hbq hne
     by_cases hjt : j < m
     · obtain ⟨b2, off2, y, rfl, hyk, hD⟩ := (HB.out.ext HXq.out).at_ hjt
       have d0 := hD 0 _ rfl
       have d1 := hD 1 _ rfl
       simp only [Nat.add_zero] at d0
       have HT : Hid (P ++ (b.take (j + 1)).flatMap (cmS x) = (P ++ (b.take j).flatMap (cmS x)) ++ cmS x y) := by show _ = _; rw [take_snoc' _ _ _ hyk, cm_snoc, List.append_assoc]
       clear hD hyk
       generalize P ++ (b.take j).flatMap (cmS x) = os at *
       have x0 := HBq.out.cell 0
       have x1 := HBq.out.cell 1
       simp only [List.getElem?_toArray, List.getElem?_cons_zero, List.getElem?_cons_succ] at x0 x1
       have HY := Lib.hid ((Ext.refl wr).alloc (.cells #[.int .i64 y.inn, .int .i64 y.out] 60))
       have hgl := HBq.out.lt
       go_upto_region 9 with fail
       have HX3 := Lib.hid (HY.out.alloc (.cells #[.int .i64 (max x.inn y.inn), .int .i64 (min x.out y.out)] 60))
       have HS3 := Lib.hid (Blk.new (wr.alloc (.cells #[.int .i64 y.inn, .int .i64 y.out] 60)) 60 #[.int .i64 (max x.inn y.inn), .int .i64 (min x.out y.out)])
       obtain ⟨g3, hg3⟩ : ∃ g3, g3 = (wr.alloc (.cells #[.int .i64 y.inn, .int .i64 y.out] 60)).heap.size := ⟨_, rfl⟩
       obtain ⟨w3, hw3⟩ : ∃ w3, w3 = (wr.alloc (.cells #[.int .i64 y.inn, .int .i64 y.out] 60)).alloc (.cells #[.int .i64 (max x.inn y.inn), .int .i64 (min x.out y.out)] 60) := ⟨_, rfl⟩
       rw [← hg3] at HS3
       simp only [World.size_alloc] at hg3
       rw [← hw3] at HS3 HX3 ⊢
       try rw [← hg3]
       clear hw3 hg3 x0 x1 d0 d1
       have HO3 := Lib.hid (own_ext HOq.out HX3.out)
       have HB3 := Lib.hid (HBq.out.ext HX3.out)
       have hgl3 := HB3.out.lt
       have hz3 := HX3.out.size
       have s0 := HS3.out.cell 0
       have s1 := HS3.out.cell 1
       simp only [List.getElem?_toArray, List.getElem?_cons_zero, List.getElem?_cons_succ] at s0 s1
       by_cases hio : max x.inn y.inn < min x.out y.out
       · have e1 : decide (max x.inn y.inn < min x.out y.out) = true := by simpa using hio
         rw [cmS_yes hio] at HT
         clear hio
         generalize max x.inn y.inn = lo at *
         generalize min x.out y.out = hi at *
         go_wp2_with (at_builtin; refine wpList_append1a rfl (.tmp 39) (.tmp 41) 35 rfl info_span Tryz.underlying35 rfl (by decide) (HO3.out.alloc _) (by exact rfl) w3.heap.size _ (by exact rfl) (by exact Blk.new' rfl) (by exact rfl) (by simp [Value.oneCell']) (by omega) (by simp [maxLen] <;> omega) (by first | omega | (simp; omega) | simp) ?_; intro v5 w5 hown5 hgr hloc; have HO5 := Lib.hid hown5; have HX5 := Lib.hid (Ext.grown ((HXq.out.trans HX3.out).alloc _) hgr (fun q hq => own_lt HO3.out q hq)); have HB5 := Lib.hid (blk_grown HB3.out hgr HNq.out); have HN5 : Hid (v5.ownBlock ≠ some gx) := (fun e => by rcases hloc with h | h; exact HNq.out (h ▸ e); rw [h] at e; injection e with e; simp at e; omega); clear hown5 hgr hloc)
         exact ⟨⟨j + 1, by omega, by go_num, HX5.out, HB5.out, HN5.out, by rw [HT.out, List.length_append, List.flatMap_append]; exact HO5.out⟩, by simp [intOf]; omega⟩
       · have e1 : decide (max x.inn y.inn < min x.out y.out) = false := by simpa using hio
         rw [cmS_no hio, List.append_nil] at HT
         clear hio
         generalize max x.inn y.inn = lo at *
         generalize min x.out y.out = hi at *
         go_wp2_with fail
         exact ⟨⟨j + 1, by omega, by go_num, HXq.out.trans HX3.out, HB3.out, HNq.out, by rw [HT.out]; exact HO3.out⟩, by simp [intOf]; omega⟩
     · have hjm : j = m := by omega
       subst hjm
       have HT : Hid (P ++ (b.take j).flatMap (cmS x) = commS (a.take (k + 1)) b) := by show _ = _; rw [List.take_of_length_le (by have := HBn.out; omega)]; exact HS.out.symm
       rw [HT.out] at HOq
       go_wp2_with fail
       exact ⟨⟨k + 1, by omega, by go_num, HXq.out, HOq.out⟩, by simp [intOf]; omega⟩
  · have hkn : k = n := by omega
    subst hkn
    have HT : Hid (commS (a.take k) b = commS a b) := by show _ = _; rw [List.take_of_length_le (by have := HAn.out; omega)]
    rw [HT.out] at HO
    obtain ⟨A', c', rfl, hc, _, hS, hfr⟩ := own_sl (f := Spn.vals) (size := 2) (fun _ => rfl) rfl HO.out
    have HR := Lib.hid (And.intro hc (And.intro hS (And.intro hfr HX.out)))
    clear hc hS hfr HO
    go_wp2_with fail
    go_ret
    exact ⟨A', c', rfl, HR.out.2.1, HR.out.1, HR.out.2.2.2, HR.out.2.2.1⟩
end
section
open Go.RowKit
theorem one_ok {s : Spn} (h : s.inn < s.out) : SetOk [s] := ⟨fun x hx => by simp at hx; subst hx; exact h, by simp⟩
theorem restF_len (a : Int) (l : List Spn) : (restF a l).length ≤ l.length + 1 := by rw [restF_T, List.length_append]; have := restT_len a l; simp; omega
theorem comm_set {s : Spn} {p : List Spn} (hp : SetOk p) (hb : InT p) : SetOk (commS [s] (restF 0 p)) := ⟨comm_full _ _, comm_apt _ (rest_ok hp hb (by unfold maxT; omega)).2.1⟩
theorem comm_in {s : Spn} {p : List Spn} (h0 : 0 ≤ s.inn) (h1 : s.out ≤ maxT) : InT (commS [s] (restF 0 p)) := by
 intro x hx
 rw [comm_one] at hx
 obtain ⟨y, hy, h⟩ := List.mem_flatMap.1 hx
 split at h
 · simp at h; subst h; simp only; omega
 · simp at h
set_option maxRecDepth 100000 in
set_option maxHeartbeats 4000000 in
theorem SMinus_one (A : Option Addr) (c : Nat) (s : Spn) (B : Option Addr) (m d : Nat) (p : List Spn) (w : World) (ha : SpnsAt w A 1 [s]) (hb : SpnsAt w B m p) (hm : m ≤ 300) (hs : s.inn < s.out) (h0 : 0 ≤ s.inn) (h1 : s.out ≤ maxT) (hp : SetOk p) (hpb : InT p) :
 Calls Tryz.prog 113 #[.slice A 1 c, .slice B m d] w (SpnsPost2 (commS [s] (restF 0 p)) w) := by
 have hbl := hb.len
 have hcl : (commS [s] (restF 0 p)).length ≤ 301 := by have h1 := comm_len [s] (restF 0 p); have h2 := restF_len 0 p; simp at h1; omega
 have hrl := restF_len 0 p
 have HC1 := Lib.hid (fun w' (hx : Ext w w') => SCheck_ok A 1 c [s] w' (ha.ext hx) (one_ok hs) (fun x hx => by simp at hx; subst hx; exact ⟨h0, h1⟩) (by omega))
 have HC2 := Lib.hid (fun w' (hx : Ext w w') => SCheck_ok B m d p w' (hb.ext hx) hp hpb (by omega))
 have HR := Lib.hid (fun w' (hx : Ext w w') => Rest_any B m d p w' (hb.ext hx) (by omega))
 have HCm := Lib.hid (fun w' (hx : Ext w w') R rc (hr : SpnsAt w' R (restF 0 p).length (restF 0 p)) => Common_any A 1 c [s] R (restF 0 p).length rc (restF 0 p) w' (ha.ext hx) hr (by omega) (by omega))
 clear ha hb hp hpb hs h0 h1
 unfold SpnsPost2
 unfold SpnsPost at HR HCm
 generalize commS [s] (restF 0 p) = cm at *
 generalize restF 0 p = rs at *
 go_enter Tryz.func113, Tryz.ntmps113
 have HCk : Hid (∀ w' (hx : Ext w w'), Calls Tryz.prog 179 #[.slice A 1 c, .slice B m d] w' fun e w2 => e = .returned (.int .i64 0) ∧ Ext w' w2) := by
  intro w' hx
  have HX := Lib.hid hx
  go_enter Tryz.func179, Tryz.ntmps179
  go_wp2_with fail
  refine (HC1.out _ HX.out).mono ?_
  rintro e w2 ⟨rfl, hx2⟩
  have HX2 := Lib.hid (HX.out.trans hx2)
  have HX3 := Lib.hid hx2
  clear hx2
  go_wp2_with fail
  refine (HC2.out _ HX2.out).mono ?_
  rintro e w3 ⟨rfl, hx3⟩
  have HX4 := Lib.hid (HX3.out.trans hx3)
  clear hx3
  go_wp2_with fail
  go_ret
  exact ⟨rfl, HX4.out⟩
 have HLim : Hid (∀ w' Z zc, Calls Tryz.prog 180 #[.slice Z cm.length zc] w' fun e w2 => e = .returned (.tuple #[.slice Z cm.length zc, .int .i64 0]) ∧ w2 = w') := by
  intro w' Z zc
  have g1 : decide ((cm.length : Int) > 400) = false := by simp; omega
  have g2 : decide ((400 : Int) < cm.length) = false := by simp; omega
  go_enter Tryz.func180, Tryz.ntmps180
  go_wp2_with fail
  go_ret2
  exact ⟨rfl, rfl⟩
 go_wp2_with fail
 refine (HCk.out _ (Ext.refl _)).mono ?_
 rintro e w1 ⟨rfl, hx1⟩
 have HX1 := Lib.hid hx1
 clear hx1
 go_wp2_with fail
 refine (HR.out _ HX1.out).mono ?_
 rintro e w2 ⟨R, rc, rfl, hr, -, hx2, -⟩
 have HX2 := Lib.hid (HX1.out.trans hx2)
 have HRr := Lib.hid hr
 clear hx2 hr
 go_wp2_with fail
 refine (HCm.out _ HX2.out R rc HRr.out).mono ?_
 rintro e w3 ⟨Z, zc, rfl, hz, hzc, hx3, hzf⟩
 have HX3 := Lib.hid (HX2.out.trans hx3)
 have HZ := Lib.hid (And.intro hz (And.intro hzc (fun ad h => Nat.le_trans HX2.out.size (hzf ad h))))
 clear hx3 hz hzc hzf
 go_wp2_with fail
 refine (HLim.out _ _ _).mono ?_
 rintro e w4 ⟨rfl, rfl⟩
 go_wp2_with fail
 go_ret2
 exact ⟨Z, zc, rfl, HZ.out.1, HZ.out.2.1, HX3.out, HZ.out.2.2⟩
theorem sum_bd : ∀ (l : List Spn), Full l → InT l → 0 ≤ sumL l ∧ sumL l ≤ l.length * maxT
 | [], _, _ => by simp [sumL]
 | s :: l, h, hb => by
  have ih := sum_bd l (fun x hx => h x (by simp [hx])) (fun x hx => hb x (by simp [hx]))
  have h1 := h s (by simp)
  have h2 := hb s (by simp)
  have e : sumL (s :: l) = (s.out - s.inn) + sumL l := by unfold sumL; simp
  rw [e]
  unfold maxT at *
  simp only [List.length_cons]
  omega
theorem sum_snoc (l : List Spn) (x : Spn) : sumL (l ++ [x]) = sumL l + (x.out - x.inn) := by unfold sumL; simp
def LnRel (w : World) (n : Nat) (l : List Spn) (v i : Value) (wr : World) : Prop := ∃ k : Nat, k ≤ n ∧ i = .int .i64 k ∧ v = .int .i64 (sumL (l.take k)) ∧ Ext w wr
set_option maxRecDepth 100000 in
set_option maxHeartbeats 2000000 in
theorem SLen_ok (A : Option Addr) (n c : Nat) (l : List Spn) (w : World) (hl : SpnsAt w A n l) (hok : SetOk l) (hb : InT l) (hn : n ≤ 400) :
 Calls Tryz.prog 114 #[.slice A n c] w fun e w' => e = .returned (.tuple #[.int .i64 (sumL l), .int .i64 0]) ∧ Ext w w' := by
 have HL := Lib.hid hl
 have HLn := Lib.hid hl.len
 have HC := Lib.hid (SCheck_ok A n c l w hl hok hb hn)
 have HBd := Lib.hid (fun k => sum_bd (l.take k) (fun x hx => hok.1 x (List.mem_of_mem_take hx)) (fun x hx => hb x (List.mem_of_mem_take hx)))
 have HE := Lib.hid (fun x (hx : x ∈ l) => And.intro (hok.1 x hx) (hb x hx))
 clear hl hok hb
 go_enter Tryz.func114, Tryz.ntmps114
 go_wp2_with fail
 refine HC.out.mono ?_
 rintro e w1 ⟨rfl, hx1⟩
 have HX1 := Lib.hid hx1
 clear hx1 HC
 go_wp2_with fail
 go_loopw [5, 15] (fun v i wr => LnRel w n l v i wr) (fun _ i _ => n - (intOf i).toNat)
 case atStart => exact ⟨0, Nat.zero_le _, rfl, rfl, HX1.out⟩
 case round =>
  obtain ⟨k, hk, rfl, rfl, hx⟩ := hrel
  have HX := Lib.hid hx
  clear hx
  by_cases hlt : k < n
  · obtain ⟨b, off, x, rfl, hxk, hC⟩ := (HL.out.ext HX.out).at_ hlt
    have c0 := hC 0 _ rfl
    have c1 := hC 1 _ rfl
    simp only [Nat.add_zero] at c0
    have hb1 := HBd.out k
    have hxb := HE.out x (List.mem_of_getElem? hxk)
    have HS : Hid (sumL (l.take (k + 1)) = sumL (l.take k) + (x.out - x.inn)) := by show _ = _; rw [take_snoc' _ _ _ hxk]; exact sum_snoc _ _
    rw [List.length_take] at hb1
    unfold maxT at hb1 hxb
    clear hC hxk
    generalize sumL (l.take k) = sm at *
    have hsm : sm ≤ 400 * 10378368000 := by
     have h1 : (min k l.length : Nat) ≤ 400 := by omega
     have h2 : ((min k l.length : Nat) : Int) ≤ 400 := by omega
     have := Int.mul_le_mul_of_nonneg_right h2 (show (0 : Int) ≤ 10378368000 by omega)
     omega
    have hsm0 := hb1.1
    obtain ⟨hx1, hx2, hx3⟩ := hxb
    have HX2 := Lib.hid (HX.out.alloc (.cells #[.int .i64 x.inn, .int .i64 x.out] 60))
    clear hb1
    go_wp2_with fail
    exact ⟨⟨k + 1, by omega, by go_num, by rw [HS.out], HX2.out⟩, by simp [intOf]; omega⟩
  · have hkn : k = n := by omega
    subst hkn
    have HT : Hid (sumL (l.take k) = sumL l) := by show _ = _; rw [List.take_of_length_le (by have := HLn.out; omega)]
    rw [HT.out]
    obtain ⟨sm, hsm⟩ : ∃ sm, sm = sumL l := ⟨_, rfl⟩
    rw [← hsm]
    have HSm := Lib.hid hsm
    clear hsm
    go_wp2_with fail
    go_ret2
    exact ⟨by rw [← HSm.out]; rfl, HX.out⟩
set_option maxRecDepth 100000 in
set_option maxHeartbeats 2000000 in
theorem Lost_any (s : Spn) (B : Option Addr) (m d : Nat) (p : List Spn) (w : World) (hb : SpnsAt w B m p) (hm : m ≤ 300) (hs : s.inn < s.out) (h0 : 0 ≤ s.inn) (h1 : s.out ≤ maxT) (hp : SetOk p) (hpb : InT p) :
 Calls Tryz.prog 53 #[.agg #[.int .i64 s.inn, .int .i64 s.out], .slice B m d] w fun e w' => e = .returned (.int .i64 (lostS s p)) ∧ Ext w w' := by
 have hbl := hb.len
 have hcl : (commS [s] (restF 0 p)).length ≤ 301 := by have h1 := comm_len [s] (restF 0 p); have h2 := restF_len 0 p; simp at h1; omega
 have HX0 := Lib.hid (((Ext.refl w).alloc (.cells #[.int .i64 s.inn, .int .i64 s.out] 60)).alloc (.cells #[.int .i64 s.inn, .int .i64 s.out] 60))
 have HMn := Lib.hid (fun w' A c (hx : Ext w w') (ha : SpnsAt w' A 1 [s]) => SMinus_one A c s B m d p w' ha (hb.ext hx) hm hs h0 h1 hp hpb)
 have HLn := Lib.hid (fun w' A c (ha : SpnsAt w' A (commS [s] (restF 0 p)).length (commS [s] (restF 0 p))) => SLen_ok A (commS [s] (restF 0 p)).length c (commS [s] (restF 0 p)) w' ha (comm_set hp hpb) (comm_in h0 h1) (by omega))
 have HF : Hid (lostS s p = sumL (commS [s] (restF 0 p))) := rfl
 unfold SpnsPost2 at HMn
 clear hb hp hpb hs h0 h1 hcl
 generalize lostS s p = ls at *
 generalize commS [s] (restF 0 p) = cm at *
 have HS1 : Hid (SpnsAt ((w.alloc (.cells #[.int .i64 s.inn, .int .i64 s.out] 60)).alloc (.cells #[.int .i64 s.inn, .int .i64 s.out] 60)) (some ⟨(w.alloc (.cells #[.int .i64 s.inn, .int .i64 s.out] 60)).heap.size, 0, none⟩) 1 [s]) := by
  refine ⟨rfl, fun _ => ⟨_, 0, rfl, fun i x hx j u hu => ?_⟩⟩
  match i, hx with
  | 0, hx =>
   simp at hx; subst hx
   have := (Blk.new (w.alloc (.cells #[.int .i64 s.inn, .int .i64 s.out] 60)) 60 #[.int .i64 s.inn, .int .i64 s.out]).cell j
   simp only [Nat.zero_mul, Nat.zero_add]
   rw [this]
   simpa [Spn.vals] using hu
  | i + 1, hx => simp at hx
 simp only [World.size_alloc] at HS1
 go_enter Tryz.func53, Tryz.ntmps53
 go_wp2_with fail
 refine (HMn.out _ _ _ HX0.out HS1.out).mono ?_
 rintro e w1 ⟨Z, zc, rfl, hz, -, hx1, -⟩
 have HX1 := Lib.hid (HX0.out.trans hx1)
 have HZ := Lib.hid hz
 clear hz hx1
 go_wp2_with fail
 refine (HLn.out _ _ _ HZ.out).mono ?_
 rintro e w2 ⟨rfl, hx2⟩
 have HX2 := Lib.hid (HX1.out.trans hx2)
 clear hx2
 go_wp2_with fail
 go_ret
 exact ⟨ret_int HF.out.symm, HX2.out⟩
end
end Go.Proofs.YtablhmobekmflaaGreatDoor