/- Laid together: The walks of document.At and of the reference's, with the place of what is returned. The walk of the law ConformSeen. Printed by genlaws46.py. Swapped and unchanged lists, plainly. The walks of reel.Identity and of the reference's Identity. The walk of document.Span, beside the reels (XSpanD with other imports). -/
import Derived.Test.YtablhmobekmflaaGreatDoorCv23
import Derived.Test.YtablhmobekmflaaGreatDoorCv22
import Derived.Test.YtablhmobekmflaaGreatDoorCv10
import Derived.Test.YtablhmobekmflaaGreatDoorCv14
import Derived.Test.YtablhmobekmflaaGreatDoorCv13
import Derived.Test.YtablhmobekmflaaGreatDoorCv20
import Derived.Test.YtablhmobekmflaaGreatDoorCv05
set_option linter.unusedVariables false
set_option linter.unusedSimpArgs false
/-! AtL -/
namespace Go.Proofs.YtablhmobekmflaaGreatDoor
open Go.RowKit
def AtLPost (l : List Ev) (fr : Int) (w : World) (en : Ending) (w' : World) : Prop :=
 ∃ A c, en = .returned (.slice A (atL l fr).length c) ∧ IntsAt w' A (atL l fr).length (atL l fr) ∧ (atL l fr).length ≤ c ∧ Ext w w' ∧ ∀ ad, A = some ad → w.heap.size ≤ ad.block
set_option maxRecDepth 100000 in
set_option maxHeartbeats 1000000 in
theorem DAtL_any (d : Doc) (h : DocH) (fr : Int) (w : World) (hat : EvsAt w h.ea h.en d.evs) (hn : h.en ≤ 1000000) :
 Calls Tryz.prog 36 #[.agg (d.cells h), .int .i64 fr] w (AtLPost d.evs fr w) := by
 have HX := Lib.hid ((Ext.refl w).alloc (.cells (d.cells h) 52))
 have HE := Lib.hid hat
 have HLn := Lib.hid hat.len
 have hb := fun o => (Blk.new w 52 (d.cells h)).cell o
 clear hat
 obtain ⟨ra, rn, rc, ea, n, ec, ca, cn, cc⟩ := h
 unfold Doc.cells at *
 dsimp only at *
 go_enter Tryz.func36, Tryz.ntmps36
 go_wp2_with fail
 clear hb
 go_loopw [5, 11] (fun v i wr => AtRel w n d.evs fr v i wr) (fun _ i _ => n - (intOf i).toNat)
 case atStart => exact ⟨0, Nat.zero_le _, rfl, HX.out, ⟨rfl, .inl ⟨rfl, rfl⟩⟩⟩
 case round =>
  obtain ⟨k, hk, rfl, hx, hown⟩ := hrel
  have hlk := at_len d.evs fr k
  have HO := Lib.hid hown
  clear hown
  by_cases hlt : k < n
  · obtain ⟨b, off, x, A', n', c', rfl, hxx, -, c0, c1, c2, c3, c4, c5, c6⟩ := (HE.out.ext hx).at_ev hlt
    have HXx := Lib.hid hxx
    clear hxx
    by_cases h1 : x.inn ≤ fr
    · by_cases h2 : fr < x.out
      · have HV := Lib.hid (at_in HXx.out (fr := fr) (by unfold seenB; simp [h1, h2]))
        go_upto_region 6 with fail
        clear c0 c1 c2 c3 c4 c5 c6
        have HX1 := Lib.hid (hx.alloc (.cells #[.int .i64 x.id, .int .i64 x.inn, .int .i64 x.out, .string x.region, .int .u8 x.kind, .string x.speaker, .slice A' n' c'] 64))
        have HO1 := Lib.hid (HO.out.alloc (.cells #[.int .i64 x.id, .int .i64 x.inn, .int .i64 x.out, .string x.region, .int .u8 x.kind, .string x.speaker, .slice A' n' c'] 64))
        have hszr := hx.size
        generalize wr.alloc (.cells #[.int .i64 x.id, .int .i64 x.inn, .int .i64 x.out, .string x.region, .int .u8 x.kind, .string x.speaker, .slice A' n' c'] 64) = W1 at *
        have hszW := HX1.out.size
        go_wp2_with (at_builtin; refine wpList_append1 rfl (.tmp 28) (.tmp 30) 83 rfl info_int Tryz.underlying83 rfl (by decide) (HO1.out.alloc _) (by exact rfl) W1.heap.size _ (by exact rfl) (by exact Blk.new' rfl) (by exact rfl) (by simp [Value.oneCell']) (by omega) (by simp [maxLen]; omega) (by simp; omega) ?_; intro v' w3 hown3 hgr)
        refine ⟨⟨k + 1, by omega, by go_num, (HX1.out.alloc _).grown hgr (fun q hq => own_lt HO1.out q hq), ?_⟩, by simp [intOf]; omega⟩
        rw [HV.out, List.length_append, List.flatMap_append]
        exact hown3
      · have HV := Lib.hid (at_out HXx.out (fr := fr) (by unfold seenB; simp [h1, h2]))
        go_wp2_with fail
        exact ⟨⟨k + 1, by omega, by go_num, hx.alloc _, by rw [HV.out]; exact HO.out.alloc _⟩, by simp [intOf]; omega⟩
    · have HV := Lib.hid (at_out HXx.out (fr := fr) (by unfold seenB; simp [h1]))
      go_wp2_with fail
      exact ⟨⟨k + 1, by omega, by go_num, hx.alloc _, by rw [HV.out]; exact HO.out.alloc _⟩, by simp [intOf]; omega⟩
  · have hkn : k = d.evs.length := by rw [HLn.out]; omega
    have hn' : n = d.evs.length := HLn.out.symm
    subst hkn
    change Hid (wr.ownsRow w.heap.size 3 1 _ (atL d.evs fr).length ((atL d.evs fr).flatMap fun x => [Value.int .i64 x])) at HO
    obtain ⟨A, c, rfl, hc, -, hsl, hfr⟩ := own_sl (f := fun x : Int => [Value.int .i64 x]) (size := 1) (fun _ => rfl) rfl HO.out
    have HS := Lib.hid hsl
    have HFr := Lib.hid hfr
    have HX2 := Lib.hid hx
    clear HO hsl hx
    go_wp2_with fail
    go_ret
    exact ⟨A, c, rfl, HS.out, hc, HX2.out, HFr.out⟩
end Go.Proofs.YtablhmobekmflaaGreatDoor
/-! LawCfSn -/
namespace Go.Proofs.YtablhmobekmflaaGreatDoor
open Go.RowKit
theorem want_take {docs : List RDoc} {a : Nat} {x : RDoc} {r : ByteArray × Int × Bool} (h : docs[a]? = some x) : wantR (docs.take (a + 1)) r = wantR (docs.take a) r ++ wantD x r := by
 unfold wantR
 rw [take_snoc' _ _ _ h]; simp
theorem wantD_no {x : RDoc} {r : ByteArray × Int × Bool} (h : r.2.2 = false) : wantD x r = [] := by unfold wantD; rw [if_neg (by simp [h])]
theorem wantD_other {x : RDoc} {rs : ByteArray} {rf : Int} (h : ¬ x.reel = rs) : wantD x (rs, rf, true) = [] := by unfold wantD; rw [if_neg (by simp [h])]
theorem wantD_yes {x : RDoc} {rs : ByteArray} {rf : Int} (h : x.reel = rs) : wantD x (rs, rf, true) = (x.doc.evs.filter (seenE rf)).map (·.id) := by unfold wantD; rw [if_pos ⟨rfl, h⟩]
theorem want_len : ∀ (l : List RDoc) (r : ByteArray × Int × Bool), (wantR l r).length ≤ sumR l
 | [], _ => by simp [wantR, sumR]
 | x :: l, r => by
  have ih := want_len l r
  have h1 : wantR (x :: l) r = wantD x r ++ wantR l r := by simp [wantR]
  have h2 : sumR (x :: l) = (x.doc.evs.length + (x.doc.regs.length + x.doc.coms.length)) + sumR l := by simp [sumR]
  have h3 : (wantD x r).length ≤ x.doc.evs.length := by
   unfold wantD
   split
   · rw [List.length_map]; exact List.length_filter_le _ _
   · simp
  rw [h1, h2, List.length_append]
  omega
theorem sumR_pre (l : List RDoc) (a : Nat) : sumR (l.take a) ≤ sumR l := by
 have : sumR l = sumR (l.take a) + sumR (l.drop a) := by unfold sumR; rw [← List.sum_append, ← List.map_append, List.take_append_drop]
 omega
def Sn1 (W : World) (n : Nat) (docs : List RDoc) (r : ByteArray × Int × Bool) (v i : Value) (wr : World) : Prop :=
 ∃ a : Nat, a ≤ n ∧ i = .int .i64 a ∧ Ext W wr ∧ wr.ownsRow W.heap.size 2 1 v (wantR (docs.take a) r).length ((wantR (docs.take a) r).flatMap intV)
def Sn2 (W W3 : World) (gx : Nat) (xc : Array Value) (Q l : List Int) (n : Nat) (r : Option Nat) (v i : Value) (wr : World) : Prop :=
 ∃ j : Nat, j ≤ n ∧ i = .int .i64 j ∧ Ext W wr ∧ wr.ownsRow W.heap.size 2 1 v (Q ++ l.take j).length ((Q ++ l.take j).flatMap intV) ∧ Blk wr gx 58 xc ∧ Keep (fun q => r = some q) W3 wr ∧ (∀ q, v.ownBlock = some q → r = some q ∨ W3.heap.size ≤ q)
set_option maxRecDepth 100000 in
set_option maxHeartbeats 16000000 in
theorem ConformSeen_any (docs : List RDoc) (A : Option Addr) (n c : Nat) (e : Edl) (B : Option Addr) (m d : Nat) (least : Int) (w : World) (hE : Env w) (ht : TabU w) (hl : RDocsIn w A n docs) (hr : ∀ d ∈ docs, d.reel.size ≤ 1048576) (he : CutsAt w B m e.cuts) (hok : EdlOk e) :
 Calls Tryz.prog 9 #[.slice A n c, .agg (e.cells B m d), .int .i64 least] w fun en w' => en = .returned (.bool true) ∧ Ext w w' := by
 obtain ⟨W1, hW1⟩ : ∃ W1, W1 = w.alloc (.cells (e.cells B m d) 25) := ⟨_, rfl⟩
 have HX : Hid (Ext w W1) := by show Ext _ _; rw [hW1]; exact (Ext.refl w).alloc _
 have HB : Hid (Blk W1 w.heap.size 25 (e.cells B m d)) := by show Blk _ _ _ _; rw [hW1]; exact Blk.new w _ _
 have HAw := Lib.hid (fun w' (hx : Ext w w') => awake46_any w' (hE.ext hx) (ht.ext hx))
 have HSm := Lib.hid (fun w' (hx : Ext w w') => small46_any docs A n c e B m d w' (hl.ext hx) (he.ext hx))
 have HOf := Lib.hid (fun w' => Of_any e B m d w')
 have HFt := Lib.hid (fun (h : small46 docs e = true) => fits46 hl hr he h)
 have HCo := Lib.hid (fun w' (hx : Ext w w') (h : Fits46 w A n docs m e) => Conform_any docs A n c e B m d 0 w' (hE.ext hx) (h.at_.ext hx) (he.ext hx) h.m hok h.n h.fit)
 have HAt1 := Lib.hid (fun w' (hx : Ext w w') (h : Fits46 w A n docs m e) => At_any e B m d least w' (hE.ext hx) (he.ext hx) h.m hok)
 have HSh : Hid (conE docs e 0 = 0 → (atIx (conDoc docs e 0).evs least).length = (wantR docs (atE e least)).length ∧ ∀ (k i : Nat), (atIx (conDoc docs e 0).evs least)[k]? = some i → ∃ x y, (conDoc docs e 0).evs[i]? = some x ∧ (wantR docs (atE e least))[k]? = some y ∧ orig (conFats docs e 0) x.id = ((atE e least).1, y, true)) := fun h => con_shows h least
 have HFf : Hid (conE docs e 0 = 0 → FatsFit (conFats docs e 0) ∧ (conFats docs e 0).length ≤ 1000000) := fun h => con_fats h
 have HDs := Lib.hid (fun w' (hx : Ext w w') => hl.ext hx)
 unfold atVal at HAt1
 clear hE ht hl hr he hok
 unfold ConPost at HCo
 unfold Edl.cells at *
 go_enter Tryz.func9, Tryz.ntmps9
 go_upto_region 1 with fail
 rw [← hW1]
 clear hW1
 go_wp2_with fail
 refine (HAw.out _ HX.out).mono ?_
 rintro en w_65 ⟨rfl, hx_66⟩
 have HX_67 := Lib.hid (HX.out.trans hx_66)
 have HB_68 := Lib.hid (HB.out.ext hx_66)
 clear hx_66 HX HB
 go_wp2_with (refine wpList_loadB rfl 25 (.tmp 4) rfl w.heap.size 25 _ _ (by exact rfl) (by exact HB_68.out) Tryz.underlying25 rfl (by exact rsize_list) ?_)
 refine (HSm.out _ HX_67.out).mono ?_
 rintro en w_69 ⟨rfl, hx_70⟩
 have HX_71 := Lib.hid (HX_67.out.trans hx_70)
 have HB_72 := Lib.hid (HB_68.out.ext hx_70)
 clear hx_70 HX_67 HB_68
 cases hsm : small46 docs e with
 | false =>
  go_wp2_with fail
  go_ret
  exact ⟨rfl, HX_71.out⟩
 | true =>
  have HF := Lib.hid (HFt.out hsm)
  clear hsm HFt
  go_wp2_with (refine wpList_loadB rfl 25 (.tmp 4) rfl w.heap.size 25 _ _ (by exact rfl) (by exact HB_72.out) Tryz.underlying25 rfl (by exact rsize_list) ?_)
  refine (HOf.out _).mono ?_
  rintro en w_73 ⟨rfl, hx_74⟩
  have HX_75 := Lib.hid (HX_71.out.trans hx_74)
  have HB_76 := Lib.hid (HB_72.out.ext hx_74)
  clear hx_74 HX_71 HB_72
  go_upto_region 6 with fail
  have HB_77 := Lib.hid (Blk.new w_73 28 #[.string e.title, .int .u8 e.rate, .bool e.drop, .slice B m d])
  have ha_78 := (Ext.refl w_73).alloc (.cells #[.string e.title, .int .u8 e.rate, .bool e.drop, .slice B m d] 28)
  have HX_79 := Lib.hid (HX_75.out.trans ha_78)
  have HB_80 := Lib.hid (HB_76.out.ext ha_78)
  clear ha_78 HX_75 HB_76
  generalize w_73.alloc (.cells #[.string e.title, .int .u8 e.rate, .bool e.drop, .slice B m d] 28) = w_81 at *
  generalize w_73.heap.size = gl_82 at *
  go_wp2_with (refine wpList_loadB rfl 28 (.tmp 7) rfl gl_82 28 _ _ (by exact rfl) (by exact HB_77.out) Tryz.underlying28 rfl (by exact size_list) ?_)
  refine (HCo.out _ HX_79.out HF.out).mono ?_
  rintro en w_83 ⟨⟨hra, nr, hrc, hea, ne, hec, hca, nc, hcc⟩, AF, fc, rfl, hat, hsz, hft, hx_84⟩
  have HAt_0 := Lib.hid hat
  have HFa_0 := Lib.hid hft
  have hsr := hsz.r
  have hse := hsz.e
  have hsc := hsz.c
  clear hat hft hsz
  have HX_85 := Lib.hid (HX_79.out.trans hx_84)
  have HB_86 := Lib.hid (HB_80.out.ext hx_84)
  have HB_87 := Lib.hid (HB_77.out.ext hx_84)
  clear hx_84 HX_79 HB_80 HB_77
  unfold Doc.cells
  dsimp only
  generalize conDoc docs e 0 = D at *
  generalize conFats docs e 0 = F at *
  generalize conE docs e 0 = E at *
  generalize hrE : atE e least = r at *
  clear hrE
  obtain ⟨rs, rf, rb⟩ := r
  dsimp only at *
  go_upto_region 7 with fail
  have HB_88 := Lib.hid (Blk.new w_83 52 #[.string D.title, .string D.lang, .int .u8 D.rate, .bool D.drop, .int .i64 D.last, .slice hra nr hrc, .slice hea ne hec, .slice hca nc hcc])
  have ha_89 := (Ext.refl w_83).alloc (.cells #[.string D.title, .string D.lang, .int .u8 D.rate, .bool D.drop, .int .i64 D.last, .slice hra nr hrc, .slice hea ne hec, .slice hca nc hcc] 52)
  have HX_90 := Lib.hid (HX_85.out.trans ha_89)
  have HB_91 := Lib.hid (HB_86.out.ext ha_89)
  have HB_92 := Lib.hid (HB_87.out.ext ha_89)
  have HF_93 := Lib.hid (HAt_0.out.ext ha_89)
  have HF_94 := Lib.hid (HFa_0.out.ext ha_89)
  clear ha_89 HX_85 HB_86 HB_87 HAt_0 HFa_0
  generalize w_83.alloc (.cells #[.string D.title, .string D.lang, .int .u8 D.rate, .bool D.drop, .int .i64 D.last, .slice hra nr hrc, .slice hea ne hec, .slice hca nc hcc] 52) = w_95 at *
  generalize w_83.heap.size = gd_96 at *
  by_cases hE : E = 0
  case neg =>
   have hne : (E != 0) = true := by simpa using hE
   clear hE HSh HFf
   go_wp2_with fail
   go_ret
   exact ⟨rfl, HX_90.out⟩
  subst hE
  have HSs := Lib.hid (HSh.out rfl)
  have HFs := Lib.hid (HFf.out rfl)
  have hDle : D.evs.length = ne := HF_93.out.evs.len
  clear HSh HFf
  go_wp2_with (refine wpList_loadB rfl 28 (.tmp 7) rfl gl_82 28 _ _ (by exact rfl) (by exact HB_92.out) Tryz.underlying28 rfl (by exact size_list) ?_)
  refine (HAt1.out _ HX_90.out HF.out).mono ?_
  rintro en w_97 ⟨rfl, hx_98⟩
  have HX_99 := Lib.hid (HX_90.out.trans hx_98)
  have HB_100 := Lib.hid (HB_91.out.ext hx_98)
  have HB_101 := Lib.hid (HB_92.out.ext hx_98)
  have HB_102 := Lib.hid (HB_88.out.ext hx_98)
  have HF_103 := Lib.hid (HF_93.out.ext hx_98)
  have HF_104 := Lib.hid (HF_94.out.ext hx_98)
  clear hx_98 HX_90 HB_91 HB_92 HB_88 HF_93 HF_94
  clear HAt1
  go_upto_region 11 with fail
  have HB_105 := Lib.hid (Blk.new w_97 80 #[.string rs, .int .i64 rf])
  have ha_106 := (Ext.refl w_97).alloc (.cells #[.string rs, .int .i64 rf] 80)
  have HX_107 := Lib.hid (HX_99.out.trans ha_106)
  have HB_108 := Lib.hid (HB_100.out.ext ha_106)
  have HB_109 := Lib.hid (HB_101.out.ext ha_106)
  have HB_110 := Lib.hid (HB_102.out.ext ha_106)
  have HF_111 := Lib.hid (HF_103.out.ext ha_106)
  have HF_112 := Lib.hid (HF_104.out.ext ha_106)
  clear ha_106 HX_99 HB_100 HB_101 HB_102 HF_103 HF_104
  generalize w_97.alloc (.cells #[.string rs, .int .i64 rf] 80) = w_113 at *
  generalize w_97.heap.size = gs_114 at *
  have HFa := HF_112
  have HDE := Lib.hid HF_111.out.evs
  have HBD := HB_110
  have HBS := HB_105
  have HX := HX_107
  clear HF_111 HF_112
  have HDw := Lib.hid (HDs.out _ HX.out)
  clear HDs
  have HLn : Hid (docs.length = n) := HDw.out.1
  have hn6 := HF.out.n
  have hfew := HF.out.few
  have hcS := fun o => HBS.out.cell o
  go_wp2_with fail
  clear hcS
  go_loopw [11, 49] (fun v i wr => Sn1 w_113 n docs (rs, rf, rb) v i wr) (fun _ i _ => n - (intOf i).toNat)
  case atStart => exact ⟨0, Nat.zero_le _, rfl, Ext.refl _, ⟨rfl, .inl ⟨rfl, rfl⟩⟩⟩
  case round =>
   obtain ⟨a, ha, rfl, hx, hown⟩ := hrel
   obtain ⟨vA, vC, hvs, -⟩ := own_sl (f := intV) (size := 1) (fun _ => rfl) rfl hown
   subst hvs
   have HX1 := Lib.hid hx
   have HO1 := Lib.hid hown
   clear hx hown
   by_cases hlt : a < n
   · obtain ⟨b0, off0, x, hh, hA, hxa, hxat, hxin, c0, c1, c2, c3, c4, c5, c6, c7, c8⟩ := HDw.out.at_cells hlt
     subst hA
     have HXa := Lib.hid hxa
     have HXe := Lib.hid hxat.evs
     have hxle := hxat.evs.len
     have hxen := hxin.en
     have HWd := Lib.hid (want_take (r := (rs, rf, rb)) hxa)
     have hwl := want_len (docs.take a) (rs, rf, rb)
     have hsl := sumR_pre docs a
     have hsm := sumR_mem (List.mem_of_getElem? hxa)
     clear hxa hxat hxin
     obtain ⟨xra, xn, xrc, xea, xen, xec, xca, xcn, xcc⟩ := hh
     dsimp only at *
     replace c0 := HX1.out.cell c0
     replace c1 := HX1.out.cell c1
     replace c2 := HX1.out.cell c2
     replace c3 := HX1.out.cell c3
     replace c4 := HX1.out.cell c4
     replace c5 := HX1.out.cell c5
     replace c6 := HX1.out.cell c6
     replace c7 := HX1.out.cell c7
     replace c8 := HX1.out.cell c8
     have HX2 := Lib.hid (HX1.out.alloc (.cells #[.string x.reel, .string x.doc.title, .string x.doc.lang, .int .u8 x.doc.rate, .bool x.doc.drop, .int .i64 x.doc.last, .slice xra xn xrc, .slice xea xen xec, .slice xca xcn xcc] 58))
     have HO2 := Lib.hid (HO1.out.alloc (.cells #[.string x.reel, .string x.doc.title, .string x.doc.lang, .int .u8 x.doc.rate, .bool x.doc.drop, .int .i64 x.doc.last, .slice xra xn xrc, .slice xea xen xec, .slice xca xcn xcc] 58))
     have HBx := Lib.hid (Blk.new wr 58 #[.string x.reel, .string x.doc.title, .string x.doc.lang, .int .u8 x.doc.rate, .bool x.doc.drop, .int .i64 x.doc.last, .slice xra xn xrc, .slice xea xen xec, .slice xca xcn xcc])
     have HOB := Lib.hid (show ∀ q, (Value.slice vA (wantR (docs.take a) (rs, rf, rb)).length vC).ownBlock = some q → q < wr.heap.size from fun q hq => by obtain ⟨_, hc⟩ := own_typed HO1.out q hq; exact (Array.getElem?_eq_some_iff.1 hc).1)
     go_upto_region 14 with fail
     clear c0 c1 c2 c3 c4 c5 c6 c7 c8
     obtain ⟨gx, hgxe⟩ : ∃ g, g = wr.heap.size := ⟨_, rfl⟩
     obtain ⟨W2, hW2⟩ : ∃ W, W = wr.alloc (.cells #[.string x.reel, .string x.doc.title, .string x.doc.lang, .int .u8 x.doc.rate, .bool x.doc.drop, .int .i64 x.doc.last, .slice xra xn xrc, .slice xea xen xec, .slice xca xcn xcc] 58) := ⟨_, rfl⟩
     rw [← hgxe] at HBx HOB
     rw [← hW2] at HX2 HO2 HBx ⊢
     rw [← hgxe]
     clear hW2 hgxe HX1 HO1
     have hcx := fun o => HBx.out.cell o
     have hcS := fun o => (HBS.out.ext HX2.out).cell o
     cases hrb : rb with
     | false =>
      rw [hrb] at HWd
      have HW : Hid (wantR (docs.take (a + 1)) (rs, rf, false) = wantR (docs.take a) (rs, rf, false)) := by show _ = _; rw [HWd.out, wantD_no rfl, List.append_nil]
      clear HWd
      subst hrb
      go_wp2_with fail
      exact ⟨⟨a + 1, by omega, by go_num, HX2.out, by rw [HW.out]; exact HO2.out⟩, by simp [intOf]; omega⟩
     | true =>
      subst hrb
      by_cases hrs : x.reel = rs
      case neg =>
       have he' : (x.reel.toList == rs.toList) = false := by rw [bs_eq]; simpa using hrs
       have HW : Hid (wantR (docs.take (a + 1)) (rs, rf, true) = wantR (docs.take a) (rs, rf, true)) := by show _ = _; rw [HWd.out, wantD_other hrs, List.append_nil]
       clear HWd hrs
       go_wp2_with fail
       exact ⟨⟨a + 1, by omega, by go_num, HX2.out, by rw [HW.out]; exact HO2.out⟩, by simp [intOf]; omega⟩
      have he' : (x.reel.toList == rs.toList) = true := by rw [bs_eq]; simpa using hrs
      have HW : Hid (wantR (docs.take (a + 1)) (rs, rf, true) = wantR (docs.take a) (rs, rf, true) ++ (x.doc.evs.filter (seenE rf)).map (·.id)) := by show _ = _; rw [HWd.out, wantD_yes hrs]
      clear HWd hrs
      have HAt := Lib.hid (DAtL_any x.doc ⟨xra, xn, xrc, xea, xen, xec, xca, xcn, xcc⟩ rf W2 (HXe.out.ext HX2.out) hxen)
      unfold AtLPost Doc.cells at HAt
      dsimp only at HAt
      rw [atIx_atL] at HAt
      go_wp2_with fail
      refine HAt.out.mono ?_
      rintro en W3 ⟨A3, c3, rfl, hi3, -, hx3, hfr3⟩
      have HX3 := Lib.hid (HX2.out.trans hx3)
      have HO3 := Lib.hid (own_ext HO2.out hx3)
      have HBx3 := Lib.hid (HBx.out.ext hx3)
      have HI3 := Lib.hid hi3
      have hsz := hx3.size
      have hl3 := atIx_len x.doc.evs rf
      have hl4 := List.length_filter_le (seenE rf) x.doc.evs
      have hgx3 := HBx.out.lt
      rw [List.length_map] at *
      obtain ⟨nL, hnL⟩ : ∃ k, k = (atIx x.doc.evs rf).length := ⟨_, rfl⟩
      rw [← hnL] at HI3 hl3 ⊢
      have HNL := Lib.hid hnL
      have HA3 := Lib.hid (fun ad h => by have := hfr3 ad h; show W2.heap.size ≤ ad.block; omega)
      clear hx3 hi3 hfr3 HX2 HO2 HBx hcx hcS HAt hnL
      go_wp2_with fail
      go_loopw [11, 68] (fun v i w' => Sn2 w_113 W3 gx #[.string x.reel, .string x.doc.title, .string x.doc.lang, .int .u8 x.doc.rate, .bool x.doc.drop, .int .i64 x.doc.last, .slice xra xn xrc, .slice xea xen xec, .slice xca xcn xcc] (wantR (docs.take a) (rs, rf, true)) ((x.doc.evs.filter (seenE rf)).map (·.id)) nL (Value.slice vA (wantR (docs.take a) (rs, rf, true)).length vC).ownBlock v i w') (fun _ i _ => nL - (intOf i).toNat)
      case atStart => exact ⟨0, Nat.zero_le _, rfl, HX3.out, by simpa using HO3.out, HBx3.out, Keep.refl _, fun q hq => .inl hq⟩
      case round =>
       obtain ⟨j, hj, rfl, hx, hown, hbx, hkp, hloc⟩ := hrel
       have HX4 := Lib.hid hx
       have HO4 := Lib.hid hown
       have HBx4 := Lib.hid hbx
       have HK4 := Lib.hid hkp
       have HL4 := Lib.hid hloc
       clear hx hown hbx hkp hloc
       by_cases hlt2 : j < nL
       · have hi4 := HK4.out.cells HI3.out (fun ad h hr => by have h1 := HA3.out ad h; have h2 := HOB.out _ hr; omega)
         obtain ⟨b1, off1, ix', hA, hix, hci⟩ := IntsAt.cell hi4 hlt2
         subst hA
         rw [List.getElem?_map, Option.map_eq_some_iff] at hix
         obtain ⟨ix, hix, rfl⟩ := hix
         obtain ⟨y, hy1, hy2, hy3⟩ := atIx_at hix
         rw [hxle] at hy3
         obtain ⟨b2, off2, y', Ay, ny, cy, hA2, hy', -, c0, -⟩ := (HXe.out.ext HX4.out).at_ev hy3
         subst hA2
         rw [hy1] at hy'
         obtain rfl := Option.some.inj hy'
         have HQ := Lib.hid (show wantR (docs.take a) (rs, rf, true) ++ ((x.doc.evs.filter (seenE rf)).map (·.id)).take (j + 1) = (wantR (docs.take a) (rs, rf, true) ++ ((x.doc.evs.filter (seenE rf)).map (·.id)).take j) ++ [y.id] by rw [take_snoc' _ j y.id (by rw [List.getElem?_map, hy2]; rfl), List.append_assoc])
         clear hi4 hix hy1 hy2 hy'
         have hlq : (wantR (docs.take a) (rs, rf, true) ++ ((x.doc.evs.filter (seenE rf)).map (·.id)).take j).length ≤ 300 := by rw [List.length_append, List.length_take]; omega
         generalize wantR (docs.take a) (rs, rf, true) ++ ((x.doc.evs.filter (seenE rf)).map (·.id)).take j = Q at *
         have hcx := fun o => HBx4.out.cell o
         have hsz4 := HX4.out.size
         have hlm : Q.length + 1 ≤ maxLen := by simp [maxLen]; omega
         have hk3 := HK4.out.size
         have t1 : decide ((ix : Int) < 0) = false := decide_eq_false (by omega)
         have t2 : ¬ xen ≤ ix := by omega
         have t3 : decide ((ix : Int) ≥ xen) = false := decide_eq_false (by omega)
         go_wp2_with (at_builtin; refine wpList_append1a rfl (.tmp 82) (.tmp 90) 65 rfl info_intC Tryz.underlying65 rfl (by decide) (HO4.out.alloc _) (by exact rfl) wr.heap.size _ (by exact rfl) (by exact Blk.new' rfl) (by exact rfl) (by simp [Value.oneCell']) (by omega) (by simp [maxLen] <;> omega) (by first | omega | (simp; omega) | simp) ?_; intro v7 w7 hown7 hgr7 hloc7; have HO7 := Lib.hid hown7; have HG7 := Lib.hid hgr7; have HL7 := Lib.hid hloc7; clear hown7 hgr7 hloc7)
         refine ⟨⟨j + 1, by omega, by go_num, (HX4.out.alloc _).grown HG7.out (fun q hq => own_lt HO4.out q hq), ?_, ?_, ?_, fun q hq => ?_⟩, by simp [intOf]; omega⟩
         · rw [HQ.out, List.length_append, List.flatMap_append]
           exact HO7.out
         · refine (HBx4.out.alloc _).awayC HG7.out (fun q hq => ?_)
           rcases HL4.out q hq with h | h
           · have := HOB.out q h; omega
           · omega
         · exact (HK4.out.ext ((Ext.refl wr).alloc _)).grown HG7.out (fun q hq => by rcases HL4.out q hq with h | h; exact .inl h; exact .inr h)
         · rcases HL7.out with h | h
           · exact HL4.out q (h ▸ hq)
           · rw [hq] at h
             cases h
             exact .inr (Nat.le_trans hk3 ((Ext.refl wr).alloc _).size)
       · obtain rfl : j = nL := by omega
         have HFt : Hid (((x.doc.evs.filter (seenE rf)).map (·.id)).take j = (x.doc.evs.filter (seenE rf)).map (·.id)) := List.take_of_length_le (by rw [List.length_map]; omega)
         rw [HFt.out, ← HW.out] at HO4
         go_wp2_with fail
         exact ⟨⟨a + 1, by omega, by go_num, HX4.out, HO4.out⟩, by simp [intOf]; omega⟩
   · obtain rfl : a = n := by omega
     have HTk : Hid (docs.take a = docs) := List.take_of_length_le (by rw [HLn.out]; omega)
     rw [HTk.out] at HO1 ⊢
     have HAt := Lib.hid (DAt_any D ⟨hra, nr, hrc, hea, ne, hec, hca, nc, hcc⟩ least wr (HDE.out.ext HX1.out) hse)
     unfold AtPost Doc.cells at HAt
     dsimp only at HAt
     rw [atIx_atL] at HAt
     obtain ⟨hS1, hS2⟩ := HSs.out
     have HS2 := Lib.hid hS2
     rw [List.length_map, hS1] at HAt
     have hnw := want_len docs (rs, rf, rb)
     obtain ⟨nW, hnW⟩ : ∃ k, k = (wantR docs (rs, rf, rb)).length := ⟨_, rfl⟩
     rw [← hnW] at HAt HO1 hnw ⊢
     have HNw := Lib.hid hnW
     obtain ⟨vA', vC', hvs, -, -, hws, -⟩ := own_sl (f := intV) (size := 1) (fun _ => rfl) hnW.symm HO1.out
     cases hvs
     have HWs := Lib.hid hws
     clear hS1 hS2 HSs hws hnW
     go_wp2_with (refine wpList_loadB rfl 52 (.tmp 8) rfl gd_96 52 _ _ (by exact rfl) (by exact (Lib.hid (HBD.out.ext HX1.out)).out) Tryz.underlying52 rfl (by exact size_docI) ?_)
     refine HAt.out.mono ?_
     rintro en W4 ⟨A4, c4, rfl, hi4, -, hx4⟩
     have HI4 := Lib.hid hi4
     have HW4 := Lib.hid (Sl.ext (Cells.stays _) HWs.out hx4)
     have HX4 := Lib.hid (HX1.out.trans hx4)
     clear hi4 hx4 HAt HWs
     go_wp2_with fail
     go_loopw [104] (fun i w' => VlRel W4 nW i w') (fun i _ => nW - (intOf i).toNat)
     case atStart => exact ⟨0, Nat.zero_le _, rfl, Ext.refl _⟩
     case round =>
      obtain ⟨k, hk, rfl, hx⟩ := hrel
      have HX5 := Lib.hid hx
      have HX6 := Lib.hid (HX4.out.trans hx)
      clear hx
      by_cases hlt3 : k < nW
      · obtain ⟨b1, off1, ix', hA, hix, hci⟩ := IntsAt.cell (HI4.out.ext HX5.out) hlt3
        subst hA
        rw [List.getElem?_map, Option.map_eq_some_iff] at hix
        obtain ⟨ix, hix, rfl⟩ := hix
        obtain ⟨x, y, hx1, hy1, hor⟩ := HS2.out k ix hix
        have hlx := (List.getElem?_eq_some_iff.1 hx1).1
        rw [hDle] at hlx
        obtain ⟨b2, off2, x', Ay, ny, cy, hA2, hx', -, c0, -⟩ := (HDE.out.ext HX6.out).at_ev hlx
        rw [hx1] at hx'
        obtain rfl := Option.some.inj hx'
        subst hA2
        obtain ⟨b3, off3, y', hA3, hy', hcw⟩ := IntsAt.cell (show IntsAt wr vA nW (wantR docs (rs, rf, rb)) from Sl.ext (Cells.stays _) HW4.out HX5.out) hlt3
        rw [hy1] at hy'
        obtain rfl := Option.some.inj hy'
        subst hA3
        have HOr := Lib.hid (Origin_any AF F.length fc F x.id wr (HFa.out.ext HX6.out) HFs.out.2 HFs.out.1)
        rw [hor] at HOr
        clear hix hx1 hy1 hor hx' hy'
        dsimp only at HOr
        have hcD := fun o => (HBD.out.ext HX6.out).cell o
        have t1 : decide ((ix : Int) < 0) = false := decide_eq_false (by omega)
        have t2 : ¬ ne ≤ ix := by omega
        have t3 : decide ((ix : Int) ≥ ne) = false := decide_eq_false (by omega)
        go_wp2_with fail
        refine HOr.out.mono ?_
        rintro en W7 ⟨rfl, hx7⟩
        have HX7 := Lib.hid (HX5.out.trans hx7)
        have hcw7 := hx7.cell hcw
        have hcS := fun o => (HBS.out.ext (HX6.out.trans hx7)).cell o
        have t4 : (rs.toList == rs.toList) = true := by simp
        clear hx7 hcw hcD HOr hci
        go_wp2_with fail
        exact ⟨⟨k + 1, by omega, by go_num, HX7.out⟩, by simp [intOf]; omega⟩
      · obtain rfl : k = nW := by omega
        have HXz := Lib.hid (HX.out.trans HX6.out)
        go_wp2_with fail
        go_ret
        exact ⟨rfl, HXz.out⟩
end Go.Proofs.YtablhmobekmflaaGreatDoor
/-! SwapP -/
namespace Go.Proofs.YtablhmobekmflaaGreatDoor
open Go.RowKit
/-- a list and an error, handed back -/
def EdlPost (e : Edl) (err : Int) (w : World) (en : Ending) (w' : World) : Prop := ∃ A' n' c', en = .returned (.tuple #[.agg (e.cells A' n' c'), .int .i64 err]) ∧ CutsAt w' A' n' e.cuts ∧ n' ≤ c' ∧ Ext w w'
def zeroE : Edl := ⟨⟨#[]⟩, 0, false, []⟩
/-- the list that plays a reel unchanged -/
def idE (r : Int) (drop : Bool) (nm : ByteArray) (f : Int) : Edl := ⟨⟨#[]⟩, r, drop, [⟨1, nm, 0, 0, f, 1, 1⟩]⟩
def identE (r : Int) (drop : Bool) (nm : ByteArray) (f : Int) : Edl := if edlErr (idE r drop nm f) = 0 then idE r drop nm f else zeroE
theorem ident_ok {r : Int} {drop : Bool} {nm : ByteArray} {f : Int} (h : edlErr (idE r drop nm f) = 0) : identE r drop nm f = idE r drop nm f := if_pos h
theorem ident_err {r : Int} {drop : Bool} {nm : ByteArray} {f : Int} (h : edlErr (idE r drop nm f) ≠ 0) : identE r drop nm f = zeroE := if_neg h
theorem idE_edlok {r : Int} {drop : Bool} {nm : ByteArray} {f : Int} (h0 : 0 ≤ r) (h1 : r ≤ 255) (hn : nm.size ≤ 140737488351232) (hf : I64 f) : EdlOk (idE r drop nm f) := by
 refine ⟨h0, h1, Nat.zero_le _, fun c hc => ?_⟩
 simp only [idE, List.mem_cons, List.not_mem_nil, or_false] at hc
 subst hc
 refine ⟨?_, ?_, ?_, hf, ?_, ?_, hn⟩ <;> (unfold I64; dsimp only; decide)
/-- a cut with the reel, the source and the speed of another one -/
def Cut.take3 (c d : Cut) : Cut := { c with reel := d.reel, src := d.src, n := d.n, d := d.d }
def swapC (l : List Cut) (i j : Nat) : List Cut := (l.set i ((cutI l i).take3 (cutI l j))).set j ((cutI l j).take3 (cutI l i))
/-- the list with its cuts swapped, whether or not it is accepted -/
def swapL (e : Edl) (a b : ByteArray) : Edl := { e with cuts := swapC e.cuts (lastI e.cuts a e.cuts.length) (lastI e.cuts b e.cuts.length) }
def swapErr (e : Edl) (a b : ByteArray) : Int := if swapPre e a b ≠ 0 then swapPre e a b else edlErr (swapL e a b)
def swapE (e : Edl) (a b : ByteArray) : Edl := if swapErr e a b = 0 then swapL e a b else zeroE
end Go.Proofs.YtablhmobekmflaaGreatDoor
/-! Ident -/
namespace Go.Proofs.YtablhmobekmflaaGreatDoor
open Go.RowKit
def idCells (nm : ByteArray) (f : Int) : Array Value := #[.int .i64 1, .string nm, .int .i64 0, .int .i64 0, .int .i64 f, .int .i64 1, .int .i64 1]
theorem id_at {w : World} {g : Nat} (hg : g = w.heap.size) (nm : ByteArray) (f r : Int) (drop : Bool) : CutsAt (w.alloc (.cells (idCells nm f) 91)) (some ⟨g, 0, none⟩) 1 (idE r drop nm f).cuts := by
 subst hg
 have hB := Blk.new w 91 (idCells nm f)
 refine ⟨rfl, fun _ => ⟨w.heap.size, 0, rfl, fun i x hx => ?_⟩⟩
 have hc := fun o => hB.cell o
 match i, hx with
 | 0, hx =>
  cases hx
  intro j u hu
  rw [hc]
  match j, hu with
  | 0, hu => exact hu
  | 1, hu => exact hu
  | 2, hu => exact hu
  | 3, hu => exact hu
  | 4, hu => exact hu
  | 5, hu => exact hu
  | 6, hu => exact hu
  | j + 7, hu => simp [Cut.vals] at hu
 | i + 1, hx => simp [idE] at hx
set_option maxRecDepth 100000 in
set_option maxHeartbeats 4000000 in
theorem Identity_any (r : Int) (drop : Bool) (nm : ByteArray) (f : Int) (w : World) (hE : Env w) (h0 : 0 ≤ r) (h1 : r ≤ 255) (hn : nm.size ≤ 140737488351232) (hf : I64 f) :
 Calls Tryz.prog 34 #[.int .u8 r, .bool drop, .string nm, .int .i64 f] w (EdlPost (identE r drop nm f) (edlErr (idE r drop nm f)) w) := by
 have HX0 := Lib.hid ((Ext.refl w).alloc (.cells edlZero 28))
 have HC := Lib.hid (id_at (w := w.alloc (.cells edlZero 28)) (g := w.heap.size + 1) (by simp) nm f r drop)
 have HX1 := Lib.hid (HX0.out.alloc (.cells (idCells nm f) 91))
 have HBr := Lib.hid ((Blk.new w 28 edlZero).alloc (.cells (idCells nm f) 91))
 have HXa := Lib.hid ((Ext.refl ((w.alloc (.cells edlZero 28)).alloc (.cells (idCells nm f) 91))).alloc (.cells edlZero 28))
 have HBa := Lib.hid (Blk.new' (w := (w.alloc (.cells edlZero 28)).alloc (.cells (idCells nm f) 91)) (g := w.heap.size + 2) (t := 28) (cs := edlZero) (by simp))
 have hok := idE_edlok (drop := drop) h0 h1 hn hf
 have HCk := Lib.hid (fun w' (hx : Ext ((w.alloc (.cells edlZero 28)).alloc (.cells (idCells nm f) 91)) w') => Check_any (idE r drop nm f) (some ⟨w.heap.size + 1, 0, none⟩) 1 1 w' (hE.ext (HX1.out.trans hx)) (HC.out.ext hx) (by decide) hok.r0 hok.r1 hok.title hok.fits)
 have HIo := Lib.hid (@ident_ok r drop nm f)
 have HIe := Lib.hid (@ident_err r drop nm f)
 have HId : Hid (idE r drop nm f = ⟨⟨#[]⟩, r, drop, [⟨1, nm, 0, 0, f, 1, 1⟩]⟩) := rfl
 clear hok hE
 unfold EdlPost
 generalize edlErr (idE r drop nm f) = er at *
 generalize hid : idE r drop nm f = E at *
 rw [hid] at *
 have hE4 : ∀ A n c, E.cells A n c = #[.string ⟨#[]⟩, .int .u8 r, .bool drop, .slice A n c] := fun A n c => by rw [HId.out]; rfl
 simp only [hE4] at HCk
 unfold edlZero idCells at *
 have HE4 := Lib.hid hE4
 clear hE4
 go_enter Tryz.func34, Tryz.ntmps34
 have HB2 := Lib.hid (HBa.out.put #[.string ⟨#[]⟩, .int .u8 r, .bool drop, .slice (some ⟨w.heap.size + 1, 0, none⟩) 1 1])
 have HBr2 := Lib.hid ((HBr.out.ext HXa.out).put_other (g' := w.heap.size + 2) (t' := 28) (by omega) #[.string ⟨#[]⟩, .int .u8 r, .bool drop, .slice (some ⟨w.heap.size + 1, 0, none⟩) 1 1])
 have HX2 := Lib.hid (HXa.out.put (g := w.heap.size + 2) (by simp) 28 #[.string ⟨#[]⟩, .int .u8 r, .bool drop, .slice (some ⟨w.heap.size + 1, 0, none⟩) 1 1])
 go_wp2_with (first | (refine wpList_storeB rfl 28 (.tmp 10) (.tmp 20) rfl (w.heap.size + 2) 28 _ _ (by exact rfl) (by exact rfl) (by exact HBa.out) (by exact rfl) (by exact size_list) (by simp [Value.oneCell']) ?_) | (refine wpList_loadB rfl 28 (.tmp 10) rfl (w.heap.size + 2) 28 _ _ (by exact rfl) (by exact HB2.out) Tryz.underlying28 rfl (by exact size_list) ?_))
 refine (HCk.out _ HX2.out).mono ?_
 rintro en w3 ⟨rfl, hx3⟩
 have HX3 := Lib.hid (HX2.out.trans hx3)
 have HB3 := Lib.hid (HB2.out.ext hx3)
 have HBr3 := Lib.hid (HBr2.out.ext hx3)
 clear hx3 HX2 HB2 HBr2 HBa HBr HXa
 by_cases hee : er = 0
 case neg =>
  have hne : (er != 0) = true := by simpa using hee
  have HEr := Lib.hid hee
  clear hee
  go_wp2_with (refine wpList_storeB rfl 28 (.tmp 8) (.tmp 25) rfl w.heap.size 28 _ _ (by exact rfl) (by exact rfl) (by exact HBr3.out) (by exact rfl) (by exact size_list) (by simp [Value.oneCell']) ?_)
  refine bodyPost_ret (v := .tuple #[.agg #[.string ⟨#[]⟩, .int .u8 0, .bool false, .slice none 0 0], .int .i64 er]) ?_ rfl ⟨none, 0, 0, by rw [HIe.out HEr.out]; rfl, by rw [HIe.out HEr.out]; exact Sl.nil, Nat.le_refl _, ?_⟩
  · exact results_B_tmp (P := Tryz.prog) Tryz.results34 (g := w.heap.size) rfl (by exact HBr3.out.put _) Tryz.underlying28 rfl size_list
  · exact (HX1.out.trans HX3.out).put (Nat.le_refl _) _ _
 case pos =>
  have HZ := Lib.hid hee
  subst hee
  go_wp2_with (first | (refine wpList_loadB rfl 28 (.tmp 10) rfl (w.heap.size + 2) 28 _ _ (by exact rfl) (by exact HB3.out) Tryz.underlying28 rfl (by exact size_list) ?_) | (refine wpList_storeB rfl 28 (.tmp 8) (.tmp 27) rfl w.heap.size 28 _ _ (by exact rfl) (by exact rfl) (by exact HBr3.out) (by exact rfl) (by exact size_list) (by simp [Value.oneCell']) ?_))
  refine bodyPost_ret (v := .tuple #[.agg #[.string ⟨#[]⟩, .int .u8 r, .bool drop, .slice (some ⟨w.heap.size + 1, 0, none⟩) 1 1], .int .i64 0]) ?_ rfl ⟨some ⟨w.heap.size + 1, 0, none⟩, 1, 1, by rw [HIo.out (by first | trivial | rfl), HE4.out], ?_, Nat.le_refl _, ?_⟩
  · exact results_B_tmp (P := Tryz.prog) Tryz.results34 (g := w.heap.size) rfl (by exact HBr3.out.put _) Tryz.underlying28 rfl size_list
  · rw [HIo.out (by first | trivial | rfl)]
    refine (HC.out.ext HX3.out).same fun ad had o => ?_
    obtain rfl := Option.some.inj had
    exact putB_cell_other (by show w.heap.size + 1 ≠ _; omega)
  · exact (HX1.out.trans HX3.out).put (Nat.le_refl _) _ _
end Go.Proofs.YtablhmobekmflaaGreatDoor
/-! SpanJ -/
namespace Go.Proofs.YtablhmobekmflaaGreatDoor
open Go.RowKit
def spF (p : Int × Int) (e : Ev) : Int × Int := (min p.1 e.inn, max p.2 e.out)
def spK (l : List Ev) (k : Nat) : Int × Int := match l with | [] => (0, 0) | e :: t => ((e :: t).take k).foldl spF (e.inn, e.out)
/-- the least span that contains all events -/
def spL (l : List Ev) : Int × Int := spK l l.length
theorem spK_zero {l : List Ev} {x : Ev} (hx : l[0]? = some x) : spK l 0 = (x.inn, x.out) := by
 cases l with
 | nil => simp at hx
 | cons e t => simp at hx; subst hx; rfl
theorem spK_succ {l : List Ev} {k : Nat} {x : Ev} (hx : l[k]? = some x) : spK l (k + 1) = spF (spK l k) x := by
 cases l with
 | nil => simp at hx
 | cons e t =>
  show List.foldl spF (e.inn, e.out) ((e :: t).take (k + 1)) = spF (List.foldl spF (e.inn, e.out) ((e :: t).take k)) x
  rw [take_snoc' _ k x hx, List.foldl_append]; rfl
theorem spK_end (f : Bool) {l : List Ev} {k : Nat} (hk : k = l.length) : (if true = f ∧ k = 0 then ((0, 0) : Int × Int) else spK l k) = spL l := by
 subst hk
 split
 · rename_i h; rw [List.eq_nil_of_length_eq_zero h.2]; rfl
 · rfl
theorem size_spanI : (Tryz.prog.info? 60).map (·.size) = some 2 := by kernel_rfl
def SpRel (w : World) (n : Nat) (l : List Ev) (f : Bool) (i : Value) (wr : World) : Prop :=
 ∃ k : Nat, k ≤ n ∧ i = .int .i64 k ∧ Ext w wr ∧ Blk wr (w.heap.size + 2) 60 #[.int .i64 (if true = f ∧ k = 0 then ((0, 0) : Int × Int) else spK l k).1, .int .i64 (if true = f ∧ k = 0 then ((0, 0) : Int × Int) else spK l k).2] ∧ Blk wr (w.heap.size + 1) 60 #[.int .i64 0, .int .i64 0]
/-- a span whose two numbers are stored one after the other -/
structure SpJ (g : Nat) (c1 c2 : Array Value) (W : World) (us : List Value) (w' : World) : Prop where
 nil : us.length = 0 → Ext W w'
 one : us.length = 1 → ∃ w5, Ext W w5 ∧ w' = putB w5 g 60 c1
 two : us.length = 2 → ∃ w5, Ext W w5 ∧ w' = putB w5 g 60 c2
section
variable {g : Nat} {c1 c2 : Array Value} {W w' : World} {us : List Value} {u v : Value}
theorem SpJ.start (W : World) : SpJ g c1 c2 W [] W.drew := ⟨fun _ => (Ext.refl W).drew, fun h => by simp at h, fun h => by simp at h⟩
theorem SpJ.pre {b : Nat} {T : TypeId} {cs : Array Value} (j : SpJ g c1 c2 W us w') (h : us.length = 0) (hB : Blk W b T cs) : Blk w' b T cs := hB.ext (j.nil h)
theorem SpJ.mid {T : TypeId} {cs : Array Value} (j : SpJ g c1 c2 W us w') (h : us.length = 1) (hB : Blk W g T cs) : Blk w' g 60 c1 := by
 obtain ⟨w5, h5, rfl⟩ := j.one h
 unfold Blk putB
 simp [(hB.ext h5).lt]
theorem SpJ.oth {b : Nat} {T : TypeId} {cs : Array Value} (j : SpJ g c1 c2 W us w') (h : us.length ≤ 2) (hB : Blk W b T cs) (hne : b ≠ g) : Blk w' b T cs := by
 rcases (show us.length = 0 ∨ us.length = 1 ∨ us.length = 2 by omega) with h | h | h
 · exact hB.ext (j.nil h)
 · obtain ⟨w5, h5, rfl⟩ := j.one h; exact (hB.ext h5).put_other (Ne.symm hne) _
 · obtain ⟨w5, h5, rfl⟩ := j.two h; exact (hB.ext h5).put_other (Ne.symm hne) _
theorem SpJ.sto1 (j : SpJ g c1 c2 W [] w') : SpJ g c1 c2 W ([] ++ [u]) (putB w' g 60 c1) := ⟨fun h => by simp at h, fun _ => ⟨w', j.nil rfl, rfl⟩, fun h => by simp at h⟩
theorem SpJ.sto2 (j : SpJ g c1 c2 W [u] w') : SpJ g c1 c2 W ([u] ++ [v]) (putB w' g 60 c2) := by
 refine ⟨fun h => by simp at h, fun h => by simp at h, fun _ => ?_⟩
 obtain ⟨w5, h5, rfl⟩ := j.one rfl
 exact ⟨w5, h5, putB_putB _ _ _ _ _ _⟩
end
set_option maxRecDepth 100000 in
set_option maxHeartbeats 2000000 in
theorem DSpan_any (d : Doc) (h : DocH) (w : World) (hat : EvsAt w h.ea h.en d.evs) (hn : h.en ≤ 1000000) :
 Calls Tryz.prog 33 #[.agg (d.cells h)] w fun en w' => en = .returned (.agg #[.int .i64 (spL d.evs).1, .int .i64 (spL d.evs).2]) ∧ Ext w w' := by
 obtain ⟨ra, rn, rc, ea, n, ec, ca, cn, cc⟩ := h
 dsimp only at hat hn
 obtain ⟨W2, hW2⟩ : ∃ W2, W2 = ((w.alloc (.cells (d.cells ⟨ra, rn, rc, ea, n, ec, ca, cn, cc⟩) 52)).alloc (.cells #[.int .i64 0, .int .i64 0] 60)) := ⟨_, rfl⟩
 have HX : Hid (Ext w W2) := by show Ext _ _; rw [hW2]; exact ((Ext.refl w).alloc _).alloc _
 have HB : Hid (Blk W2 w.heap.size 52 (d.cells ⟨ra, rn, rc, ea, n, ec, ca, cn, cc⟩)) := by show Blk _ _ _ _; rw [hW2]; exact (Blk.new w _ _).alloc _
 have HZ : Hid (Blk W2 (w.heap.size + 1) 60 #[.int .i64 0, .int .i64 0]) := by show Blk _ _ _ _; rw [hW2]; exact Blk.new' (by simp)
 have hsz : W2.heap.size = w.heap.size + 2 := by rw [hW2]; simp
 have HE := Lib.hid hat
 have HLn := Lib.hid hat.len
 clear hat
 unfold Doc.cells at HB hW2 ⊢
 dsimp only at HB hW2 ⊢
 go_enter Tryz.func33, Tryz.ntmps33
 go_upto_region 1 with fail
 rw [← hW2]
 clear hW2
 have hcb := fun o => HB.out.cell o
 by_cases hn0 : n = 0
 · subst hn0
   have HV : Hid (spL d.evs = (0, 0)) := by show _ = _; rw [List.eq_nil_of_length_eq_zero HLn.out]; rfl
   go_wp2_with (refine wpList_storeB rfl 60 (.tmp 2) _ rfl (w.heap.size + 1) 60 _ _ (by exact rfl) (by exact rfl) (by exact HZ.out) (by exact rfl) (by exact size_spanI) (by simp [Value.oneCell']) ?_)
   refine bodyPost_ret (v := .agg #[.int .i64 0, .int .i64 0]) ?_ rfl ⟨?_, HX.out.put (by omega) _ _⟩
   · exact results_B (P := Tryz.prog) Tryz.results33 (g := w.heap.size + 1) rfl (by exact HZ.out.put _) Tryz.underlying60 rfl size_spanI
   · rw [HV.out]
 have hnp : 0 < n := by omega
 have hni : ((n : Int) == 0) = false := by simp; omega
 obtain ⟨b0, off0, x0, A0, n0, c0', heq0, hx0, -, z0, z1, z2, z3, z4, z5, z6⟩ := (HE.out.ext HX.out).at_ev hnp
 subst heq0
 simp only [Nat.zero_mul, Nat.add_zero] at z0 z1 z2 z3 z4 z5 z6
 have HK0 : Hid (spK d.evs 0 = (x0.inn, x0.out)) := spK_zero hx0
 clear hx0
 have HXs := Lib.hid (HX.out.alloc (.cells #[.int .i64 x0.inn, .int .i64 x0.out] 60))
 have HZs := Lib.hid (HZ.out.alloc (.cells #[.int .i64 x0.inn, .int .i64 x0.out] 60))
 have HSs : Hid (Blk (W2.alloc (.cells #[.int .i64 x0.inn, .int .i64 x0.out] 60)) (w.heap.size + 2) 60 #[.int .i64 x0.inn, .int .i64 x0.out]) := Blk.new' hsz.symm
 go_upto_block 0 with fail
 clear hcb z0 z1 z2 z3 z4 z5 z6
 generalize some (⟨b0, off0, none⟩ : Addr) = ea at *
 go_wp2_with fail
 go_loopw [19] (fun i wr => SpRel w n d.evs false i wr) (fun i _ => n - (intOf i).toNat)
 case atStart => exact ⟨0, Nat.zero_le _, rfl, HXs.out, by rw [if_neg (by simp), HK0.out]; exact HSs.out, HZs.out⟩
 case round =>
  clear HXs HZs HSs HX HZ HB
  obtain ⟨k, hk, rfl, hx, hbs, hbz⟩ := hrel
  by_cases hlt : k < n
  · obtain ⟨b, off, x, A', n', c', heq, hxx, -, c0, c1, c2, c3, c4, c5, c6⟩ := (HE.out.ext hx).at_ev hlt
    subst heq
    have HKs := Lib.hid (spK_succ hxx)
    have HKz : Hid (k = 0 → spK d.evs k = (x.inn, x.out)) := fun h => by subst h; exact spK_zero hxx
    have hk0 : (0 : Int) ≤ (k : Int) := by omega
    have hk1 : (k : Int) < (n : Int) := by omega
    have HBe := Lib.hid (Blk.new wr 64 #[.int .i64 x.id, .int .i64 x.inn, .int .i64 x.out, .string x.region, .int .u8 x.kind, .string x.speaker, .slice A' n' c'])
    have hal := (Ext.refl wr).alloc (.cells #[.int .i64 x.id, .int .i64 x.inn, .int .i64 x.out, .string x.region, .int .u8 x.kind, .string x.speaker, .slice A' n' c'] 64)
    have HX9 := Lib.hid (hx.trans hal)
    have HBz := Lib.hid (hbz.ext hal)
    have hne : wr.heap.size ≠ w.heap.size + 2 := by have := hbs.lt; omega
    clear hxx
    obtain ⟨p9, ha⟩ : ∃ p9, p9 = (spK d.evs k).1 := ⟨_, rfl⟩
    obtain ⟨q9, hb'⟩ : ∃ q9, q9 = (spK d.evs k).2 := ⟨_, rfl⟩
    rw [if_neg (by simp), ← ha, ← hb'] at hbs
    unfold spF at HKs
    rw [← ha, ← hb'] at HKs
    have HBs := Lib.hid (hbs.ext hal)
    clear HKz ha hb' hbs hbz hal
    go_upto_region 7 with fail
    clear c0 c1 c2 c3 c4 c5 c6
    generalize HW : wr.alloc (.cells #[.int .i64 x.id, .int .i64 x.inn, .int .i64 x.out, .string x.region, .int .u8 x.kind, .string x.speaker, .slice A' n' c'] 64) = W9 at *
    refine wp_region_links [some 23, some 24, some 25, some 26, some 27, some 28, some 29, some 30, some 31, some 32, some 33, some 34, some 35, none, some 36, none] [[], [0], [], [2], [3], [1, 4], [], [6], [], [8], [9], [7, 10], [0, 1, 2, 3, 4, 5, 6, 7], [12, 5, 0, 1, 2, 3, 4, 5, 6, 7], [0, 1, 2, 3, 4, 5, 6, 7, 8, 9, 10, 11, 12, 13], [14, 11, 13, 0, 1, 2, 3, 4, 5, 6, 7, 8, 9, 10, 11, 12, 13]] [13, 15] [.pointer (some ⟨w.heap.size + 2, 0, none⟩), .int .i64 p9, .pointer (some ⟨wr.heap.size, 1, none⟩), .pointer (some ⟨wr.heap.size, 1, none⟩), .int .i64 x.inn, .int .i64 (min p9 x.inn), .pointer (some ⟨w.heap.size + 2, 1, none⟩), .int .i64 q9, .pointer (some ⟨wr.heap.size, 1, none⟩), .pointer (some ⟨wr.heap.size, 2, none⟩), .int .i64 x.out, .int .i64 (max q9 x.out), .pointer (some ⟨w.heap.size + 2, 0, none⟩), undef, .pointer (some ⟨w.heap.size + 2, 1, none⟩), undef] (SpJ (w.heap.size + 2) #[.int .i64 (min p9 x.inn), .int .i64 q9] #[.int .i64 (min p9 x.inn), .int .i64 (max q9 x.out)] W9) (by kernel_rfl) (by kernel_rfl) (by kernel_rfl) (by kernel_rfl) (by kernel_rfl) (by kernel_rfl) (by kernel_rfl) (by decide) ?_ ?_ ?_ ?_
    · exact SpJ.start W9
    · intro i o ho hc a w' us K' hJ hF hlim hk
      match i, ho with
      | 0, ho =>
       simp only [List.getElem?_toArray, List.getElem?_cons_zero, List.getElem?_cons_succ, Option.some.injEq] at ho
       subst ho
       have e3 := hF.old 3 (.pointer (some ⟨w.heap.size + 2, 0, none⟩)) rfl rfl
       simp only [Act.eval] at e3
       clear hF hlim hJ
       go_simp
       exact hk
      | 1, ho =>
       simp only [List.getElem?_toArray, List.getElem?_cons_zero, List.getElem?_cons_succ, Option.some.injEq] at ho
       subst ho
       have e23 := hF.pure 0 23 (.pointer (some ⟨w.heap.size + 2, 0, none⟩)) rfl rfl rfl rfl
       have hcl : w'.cell? ⟨w.heap.size + 2, 0, none⟩ = some (.int .i64 p9) := (hJ.pre (Nat.le_zero.1 (hlim 0 13 rfl rfl)) HBs.out).cell 0
       simp only [Act.eval] at e23
       clear hF hlim hJ
       go_simp
       exact hk
      | 2, ho =>
       simp only [List.getElem?_toArray, List.getElem?_cons_zero, List.getElem?_cons_succ, Option.some.injEq] at ho
       subst ho
       have e5 := hF.old 5 (.pointer (some ⟨wr.heap.size, 0, none⟩)) rfl rfl
       simp only [Act.eval] at e5
       clear hF hlim hJ
       go_simp
       exact hk
      | 3, ho =>
       simp only [List.getElem?_toArray, List.getElem?_cons_zero, List.getElem?_cons_succ, Option.some.injEq] at ho
       subst ho
       have e25 := hF.pure 2 25 (.pointer (some ⟨wr.heap.size, 1, none⟩)) rfl rfl rfl rfl
       simp only [Act.eval] at e25
       clear hF hlim hJ
       go_simp
       exact hk
      | 4, ho =>
       simp only [List.getElem?_toArray, List.getElem?_cons_zero, List.getElem?_cons_succ, Option.some.injEq] at ho
       subst ho
       have e26 := hF.pure 3 26 (.pointer (some ⟨wr.heap.size, 1, none⟩)) rfl rfl rfl rfl
       have hcl : w'.cell? ⟨wr.heap.size, 1, none⟩ = some (.int .i64 x.inn) := (hJ.oth (Nat.le_of_lt (Nat.lt_succ_of_le (hlim 1 15 rfl rfl))) HBe.out hne).cell 1
       simp only [Act.eval] at e26
       clear hF hlim hJ
       go_simp
       exact hk
      | 5, ho =>
       simp only [List.getElem?_toArray, List.getElem?_cons_zero, List.getElem?_cons_succ, Option.some.injEq] at ho
       subst ho
       have e24 := hF.pure 1 24 (.int .i64 p9) rfl rfl rfl rfl
       have e27 := hF.pure 4 27 (.int .i64 x.inn) rfl rfl rfl rfl
       simp only [Act.eval] at e24 e27
       clear hF hlim hJ
       go_simp
       exact hk
      | 6, ho =>
       simp only [List.getElem?_toArray, List.getElem?_cons_zero, List.getElem?_cons_succ, Option.some.injEq] at ho
       subst ho
       have e3 := hF.old 3 (.pointer (some ⟨w.heap.size + 2, 0, none⟩)) rfl rfl
       simp only [Act.eval] at e3
       clear hF hlim hJ
       go_simp
       exact hk
      | 7, ho =>
       simp only [List.getElem?_toArray, List.getElem?_cons_zero, List.getElem?_cons_succ, Option.some.injEq] at ho
       subst ho
       have e29 := hF.pure 6 29 (.pointer (some ⟨w.heap.size + 2, 1, none⟩)) rfl rfl rfl rfl
       have hcl : w'.cell? ⟨w.heap.size + 2, 1, none⟩ = some (.int .i64 q9) := (hJ.pre (Nat.le_zero.1 (hlim 0 13 rfl rfl)) HBs.out).cell 1
       simp only [Act.eval] at e29
       clear hF hlim hJ
       go_simp
       exact hk
      | 8, ho =>
       simp only [List.getElem?_toArray, List.getElem?_cons_zero, List.getElem?_cons_succ, Option.some.injEq] at ho
       subst ho
       have e5 := hF.old 5 (.pointer (some ⟨wr.heap.size, 0, none⟩)) rfl rfl
       simp only [Act.eval] at e5
       clear hF hlim hJ
       go_simp
       exact hk
      | 9, ho =>
       simp only [List.getElem?_toArray, List.getElem?_cons_zero, List.getElem?_cons_succ, Option.some.injEq] at ho
       subst ho
       have e31 := hF.pure 8 31 (.pointer (some ⟨wr.heap.size, 1, none⟩)) rfl rfl rfl rfl
       simp only [Act.eval] at e31
       clear hF hlim hJ
       go_simp
       exact hk
      | 10, ho =>
       simp only [List.getElem?_toArray, List.getElem?_cons_zero, List.getElem?_cons_succ, Option.some.injEq] at ho
       subst ho
       have e32 := hF.pure 9 32 (.pointer (some ⟨wr.heap.size, 2, none⟩)) rfl rfl rfl rfl
       have hcl : w'.cell? ⟨wr.heap.size, 2, none⟩ = some (.int .i64 x.out) := (hJ.oth (Nat.le_of_lt (Nat.lt_succ_of_le (hlim 1 15 rfl rfl))) HBe.out hne).cell 2
       simp only [Act.eval] at e32
       clear hF hlim hJ
       go_simp
       exact hk
      | 11, ho =>
       simp only [List.getElem?_toArray, List.getElem?_cons_zero, List.getElem?_cons_succ, Option.some.injEq] at ho
       subst ho
       have e30 := hF.pure 7 30 (.int .i64 q9) rfl rfl rfl rfl
       have e33 := hF.pure 10 33 (.int .i64 x.out) rfl rfl rfl rfl
       simp only [Act.eval] at e33 e30
       clear hF hlim hJ
       go_simp
       exact hk
      | 12, ho =>
       simp only [List.getElem?_toArray, List.getElem?_cons_zero, List.getElem?_cons_succ, Option.some.injEq] at ho
       subst ho
       have e3 := hF.old 3 (.pointer (some ⟨w.heap.size + 2, 0, none⟩)) rfl rfl
       simp only [Act.eval] at e3
       clear hF hlim hJ
       go_simp
       exact hk
      | 13, ho => simp at hc
      | 14, ho =>
       simp only [List.getElem?_toArray, List.getElem?_cons_zero, List.getElem?_cons_succ, Option.some.injEq] at ho
       subst ho
       have e3 := hF.old 3 (.pointer (some ⟨w.heap.size + 2, 0, none⟩)) rfl rfl
       simp only [Act.eval] at e3
       clear hF hlim hJ
       go_simp
       exact hk
      | 15, ho => simp at hc
      | i + 16, ho => simp at ho
    · intro p c' o hp ho a w' us K' hl hJ hF hk
      match p, hp with
      | 0, hp =>
       obtain rfl : 13 = c' := by simpa using hp
       simp only [List.getElem?_toArray, List.getElem?_cons_zero, List.getElem?_cons_succ, Option.some.injEq] at ho
       subst ho
       obtain rfl : us = [] := List.eq_nil_of_length_eq_zero hl
       have e35 := hF.pure 12 35 (.pointer (some ⟨w.heap.size + 2, 0, none⟩)) rfl rfl rfl rfl
       have e28 := hF.pure 5 28 (.int .i64 (min p9 x.inn)) rfl rfl rfl rfl
       have hb := hJ.pre rfl HBs.out
       have hcl := hb.cell 0
       have hfr := hb.frozen 0
       have hset := setCell_put hb 0 (.int .i64 (min p9 x.inn))
       simp at hset hcl
       have HK := Lib.hid (hk undef _ (hJ.sto1 (u := undef)))
       clear hb hk hF hJ
       simp only [Act.eval] at e35 e28
       go_simp
       exact HK.out
      | 1, hp =>
       obtain rfl : 15 = c' := by simpa using hp
       simp only [List.getElem?_toArray, List.getElem?_cons_zero, List.getElem?_cons_succ, Option.some.injEq] at ho
       subst ho
       obtain ⟨u0, rfl⟩ := list_1 hl
       have e36 := hF.pure 14 36 (.pointer (some ⟨w.heap.size + 2, 1, none⟩)) rfl rfl rfl rfl
       have e34 := hF.pure 11 34 (.int .i64 (max q9 x.out)) rfl rfl rfl rfl
       have hb := hJ.mid rfl HBs.out
       have hcl := hb.cell 1
       have hfr := hb.frozen 1
       have hset := setCell_put hb 1 (.int .i64 (max q9 x.out))
       simp at hset hcl
       have HK := Lib.hid (hk undef _ (hJ.sto2 (v := undef)))
       clear hb hk hF hJ
       simp only [Act.eval] at e36 e34
       go_simp
       exact HK.out
      | p + 2, hp => simp at hp
    intro us w10 hl hJ
    obtain ⟨u0, u1, rfl⟩ := list_2 hl
    first | (rename_i hK; refine hK _ _ ?_; clear hK) | (rename_i hK hK_1; refine hK _ _ ?_; clear hK) | (rename_i hK hK_1 hK_2; refine hK _ _ ?_; clear hK) | (rename_i hK hK_1 hK_2 hK_3; refine hK _ _ ?_; clear hK)
    generalize hL : frameL _ _ _ _ = L
    obtain rfl : L = [(23, .pointer (some ⟨w.heap.size + 2, 0, none⟩)), (24, .int .i64 p9), (25, .pointer (some ⟨wr.heap.size, 1, none⟩)), (26, .pointer (some ⟨wr.heap.size, 1, none⟩)), (27, .int .i64 x.inn), (28, .int .i64 (min p9 x.inn)), (29, .pointer (some ⟨w.heap.size + 2, 1, none⟩)), (30, .int .i64 q9), (31, .pointer (some ⟨wr.heap.size, 1, none⟩)), (32, .pointer (some ⟨wr.heap.size, 2, none⟩)), (33, .int .i64 x.out), (34, .int .i64 (max q9 x.out)), (35, .pointer (some ⟨w.heap.size + 2, 0, none⟩)), (36, .pointer (some ⟨w.heap.size + 2, 1, none⟩))] := hL.symm.trans (by kernel_rfl)
    clear hL hl
    simp only [Act.put, List.foldl_cons, List.foldl_nil, List.setIfInBounds_toArray, List.set_cons_zero, List.set_cons_succ]
    obtain ⟨w5, hx5, rfl⟩ := hJ.two rfl
    go_wp2_with fail
    refine ⟨⟨k + 1, by omega, by go_num, (HX9.out.trans hx5).put (by omega) _ _, ?_, (HBz.out.ext hx5).put_other (by omega) _⟩, by simp [intOf]; omega⟩
    rw [if_neg (by simp), HKs.out]
    exact (HBs.out.ext hx5).put _
  · have hkn : k = d.evs.length := by rw [HLn.out]; omega
    have HV : Hid ((if true = false ∧ k = 0 then ((0, 0) : Int × Int) else spK d.evs k) = spL d.evs) := spK_end false hkn
    have hbs' : Hid (Blk wr (w.heap.size + 2) 60 #[.int .i64 (spL d.evs).1, .int .i64 (spL d.evs).2]) := by show Blk _ _ _ _; rw [← HV.out]; exact hbs
    have HBz := Lib.hid hbz
    clear HV hbs hbz
    have hkk : ¬ (k : Int) < (n : Int) := by omega
    go_wp2_with (first | (refine wpList_loadB rfl 60 (.tmp 3) rfl (w.heap.size + 2) 60 _ _ (by exact rfl) (by exact hbs'.out) Tryz.underlying60 rfl (by exact size_spanI) ?_) | (refine wpList_storeB rfl 60 (.tmp 2) _ rfl (w.heap.size + 1) 60 _ _ (by exact rfl) (by exact rfl) (by exact HBz.out) (by exact rfl) (by exact size_spanI) (by simp [Value.oneCell']) ?_))
    refine bodyPost_ret (v := .agg #[.int .i64 (spL d.evs).1, .int .i64 (spL d.evs).2]) ?_ rfl ⟨rfl, hx.put (by omega) _ _⟩
    exact results_B (P := Tryz.prog) Tryz.results33 (g := w.heap.size + 1) rfl (by exact HBz.out.put _) Tryz.underlying60 rfl size_spanI
end Go.Proofs.YtablhmobekmflaaGreatDoor