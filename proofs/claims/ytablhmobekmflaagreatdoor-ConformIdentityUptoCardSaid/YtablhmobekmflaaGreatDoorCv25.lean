/- Laid together: Conforming: an edit that plays the whole of a reel gives its events back; plainly. The walk of the law ConformIdentity. Printed by genlaws46.py. -/
import Derived.Test.YtablhmobekmflaaGreatDoorCv23
import Derived.Test.YtablhmobekmflaaGreatDoorCv24
import Derived.Test.YtablhmobekmflaaGreatDoorCv22
set_option linter.unusedVariables false
set_option linter.unusedSimpArgs false
/-! ConI -/
namespace Go.Proofs.YtablhmobekmflaaGreatDoor
open Go.RowKit
def nmA : ByteArray := ⟨#[65]⟩
def idC (f : Int) : Cut := ⟨1, nmA, 0, 0, f, 1, 1⟩
theorem idE_join (r : Int) (drop : Bool) (f : Int) : joinC (idE r drop nmA f).cuts = [idC f] := rfl
theorem id_ok {r : Int} {drop : Bool} {f : Int} (h : edlErr (idE r drop nmA f) = 0) : (idC f).pc.Ok := joinC_ok h _ (by rw [idE_join]; exact List.mem_singleton.2 rfl)
theorem id_reach {f v : Int} (hp : (idC f).pc.Ok) (h0 : 0 ≤ v) (h1 : v ≤ f) : reachP (idC f).pc v = v := by
 have hb := reach_bd hp v
 have ht : ∀ t, toP (idC f).pc t = t := fun t => by
  show (0 : Int) + (t - 0) * 1 / 1 = t
  rw [Int.mul_one, Int.ediv_one]
  omega
 have hi : (idC f).pc.inn = 0 := rfl
 have ho : (idC f).pc.out = f := rfl
 have key : ∀ t, 0 ≤ t → t < f → (reachP (idC f).pc v ≤ t ↔ v ≤ t) := fun t h2 h3 => by
  have := reach_iff hp (v := v) (t := t) h2 h3
  rwa [ht] at this
 rw [hi, ho] at hb
 have h4 : v ≤ reachP (idC f).pc v := by
  rcases Int.lt_or_le (reachP (idC f).pc v) f with h | h
  · exact (key _ hb.1 h).1 (Int.le_refl _)
  · omega
 rcases Int.lt_or_le v f with h | h
 · have := (key v h0 h).2 (Int.le_refl _)
   omega
 · omega
theorem sp_fold : ∀ (l : List Ev) (p : Int × Int), p.2 ≤ (l.foldl spF p).2 ∧ ∀ x ∈ l, x.out ≤ (l.foldl spF p).2
 | [], p => ⟨Int.le_refl _, fun x hx => by simp at hx⟩
 | y :: l, p => by
  obtain ⟨h1, h2⟩ := sp_fold l (spF p y)
  have h3 : p.2 ≤ (spF p y).2 ∧ y.out ≤ (spF p y).2 := by unfold spF; simp only; omega
  rw [List.foldl_cons]
  refine ⟨by omega, fun x hx => ?_⟩
  rcases List.mem_cons.1 hx with rfl | hx
  · omega
  · exact h2 x hx
theorem sp_out {l : List Ev} {x : Ev} (hx : x ∈ l) : x.out ≤ (spL l).2 := by
 unfold spL spK
 cases l with
 | nil => simp at hx
 | cons y l =>
  simp only
  rw [List.take_length]
  exact (sp_fold (y :: l) (y.inn, y.out)).2 x hx
theorem entEvs_id {f : Int} (hp : (idC f).pc.Ok) : ∀ {l : List Ev} {i : Nat}, (∀ x ∈ l, 0 ≤ x.inn ∧ x.inn < x.out ∧ x.out ≤ f) → entEvs (idC f) i l = l.mapIdx fun j x => ⟨i + j, idC f, x, ⟨x.inn, x.out⟩⟩
 | [], _, _ => rfl
 | x :: l, i, h => by
  have hx := h x (List.mem_cons_self ..)
  unfold entEvs
  rw [entEvs_id hp (fun y hy => h y (List.mem_cons_of_mem _ hy)), List.mapIdx_cons]
  unfold entAt partE
  rw [id_reach hp hx.1 (by omega), id_reach hp (by omega) hx.2.2, if_pos hx.2.1]
  simp only [List.singleton_append, Nat.add_zero]
  congr 1
  apply List.mapIdx_eq_mapIdx_iff.2
  intro j hj
  congr 1
  omega
theorem regs_strict : ∀ {l : List Reg} {p : Option ByteArray}, regsLoop p l = 0 → (∀ q, p = some q → ∀ r ∈ l, q.toList < nmR r) ∧ l.Pairwise fun x y => nmR x < nmR y
 | [], p, _ => ⟨fun _ _ r hr => by simp at hr, List.Pairwise.nil⟩
 | x :: l, p, h => by
  unfold regsLoop at h
  split at h
  · rename_i h1; exact absurd h h1
  · split at h
    · omega
    · rename_i h2
      split at h
      · omega
      · rename_i h3
        obtain ⟨k1, k2⟩ := regs_strict h
        have hlt : ∀ q, p = some q → q.toList < nmR x := fun q hq => by
         subst hq
         simp only [Option.map_some, Option.some.injEq] at h3
         rw [Go.Proofs.bytesLess_eq] at h3
         have h6 : ¬ nmR x < q.toList := by simpa [nmR] using h3
         refine Bs.lt_of_le_of_ne (List.not_lt.1 h6) (fun e => h2 ?_)
         rw [Option.some.injEq]
         exact of_decide_eq_true ((bs_eq q x.name).symm.trans (beq_iff_eq.2 e))
        refine ⟨fun q hq r hr => ?_, List.pairwise_cons.2 ⟨fun r hr => k1 x.name rfl r hr, k2⟩⟩
        rcases List.mem_cons.1 hr with rfl | hr
        · exact hlt q hq
        · exact Bs.lt_trans (hlt q hq) (k1 x.name rfl r hr)
theorem refR_same {l : List Reg} (h : l.Pairwise fun x y => nmR x < nmR y) : refR l = some l := by
 unfold refR
 rcases refR_fold l [] [] List.Pairwise.nil (fun x => Iff.rfl) with ⟨q, h1, h2, h3⟩ | ⟨_, h1⟩
 · rw [h1, strict_eq h2 h (fun x => by simpa using h3 x)]
 · exact absurd (by simpa using h1) (strict_conf h)
/-- the documents of the one reel -/
def oneD (d : Doc) : List RDoc := [⟨nmA, d⟩]
structure Back (d : Doc) (e : Edl) : Prop where
 ok : conE (oneD d) e 1 = 0
 len : (conDoc (oneD d) e 1).evs.length = d.evs.length
 flen : (conFats (oneD d) e 1).length = d.evs.length
 lang : (conDoc (oneD d) e 1).lang = d.lang
 at_ : ∀ (k : Nat) x, d.evs[k]? = some x → ∃ y f, (conDoc (oneD d) e 1).evs[k]? = some y ∧ (conFats (oneD d) e 1)[k]? = some f ∧ y = x.as ((k : Int) + 1) ⟨x.inn, x.out⟩ ∧ f.lost = 0 ∧ f.parts.length = 1 ∧ f.short.length = 0
theorem len_one {α : Type} {l : List α} {a : α} (hn : l.Nodup) (h : ∀ x, x ∈ l ↔ x = a) : l.length = 1 := by
 match l, hn, h with
 | [], _, h => have := (h a).2 rfl; simp at this
 | [x], _, _ => rfl
 | x :: y :: l, hn, h =>
  have h1 := (h x).1 (by simp)
  have h2 := (h y).1 (by simp)
  rw [List.nodup_cons] at hn
  exact absurd (by rw [h1, ← h2]; simp) hn.1
theorem con_back {d : Doc} {f : Int} (hd : d.err = 0) (h40 : d.evs.length ≤ 40) (hs : (spL d.evs).2 ≤ f) (he : edlErr (idE d.rate d.drop nmA f) = 0) : Back d (idE d.rate d.drop nmA f) := by
 have hp := id_ok he
 have hdo := doc_ok hd
 have hev : ∀ x ∈ d.evs, 0 ≤ x.inn ∧ x.inn < x.out ∧ x.out ≤ f := fun x hx => by
  have h1 := ev_span ((evs_v hdo.2.2.2.1).each x hx).1
  have h2 := sp_out hx
  omega
 have hreg : regsLoop none d.regs = 0 ∧ ¬ 16 < d.regs.length := by
  have := hdo.2.1
  unfold regsErr at this
  split at this
  · omega
  · exact ⟨this, by assumption⟩
 have hrR : refR (allR (oneD d)) = some d.regs := by
  have : allR (oneD d) = d.regs := by unfold allR oneD; simp
  rw [this]
  exact refR_same (regs_strict hreg.1).2
 have hC : conErr (oneD d) (idE d.rate d.drop nmA f) = 0 := by
  unfold conErr
  rw [if_neg (by simpa using he), if_neg (by simp [oneD])]
  have hrd : rdLoop (idE d.rate d.drop nmA f).rate (idE d.rate d.drop nmA f).drop none (oneD d) = 0 := by
   have hnA : nameB nmA = true := by kernel_rfl
   have hn : rdNext (idE d.rate d.drop nmA f).rate (idE d.rate d.drop nmA f).drop none ⟨nmA, d⟩ = 0 := by
    unfold rdNext
    rw [if_neg (by rw [hnA]; simp), if_neg (by simp), if_neg (by simpa using hd), if_neg (by simp [idE])]
   unfold oneD rdLoop
   rw [if_neg (by simpa using hn)]
   rfl
  rw [if_neg (by simpa using hrd)]
  unfold regE
  rw [hrR]
  simp only
  rw [if_neg hreg.2]
 have hfR : findRd (oneD d) nmA = some 0 := by unfold findRd oneD; simp
 have hents : ents (oneD d) (joinC (idE d.rate d.drop nmA f).cuts) = d.evs.mapIdx fun j x => ⟨j, idC f, x, ⟨x.inn, x.out⟩⟩ := by
  rw [idE_join]
  unfold ents
  rw [List.flatMap_cons, List.flatMap_nil, List.append_nil]
  unfold entC
  rw [show (idC f).reel = nmA from rfl, hfR]
  simp only
  rw [show offR (oneD d) 0 = 0 from rfl, show evsR (oneD d) 0 = d.evs from rfl, entEvs_id hp hev]
  simp
 have hE : conE (oneD d) (idE d.rate d.drop nmA f) 1 = 0 := by
  unfold conE
  rw [if_neg (by simpa using hC), if_neg (by omega), con_evs, evsOf_len, hents, List.length_mapIdx, if_neg (by omega)]
 have hF : conFats (oneD d) (idE d.rate d.drop nmA f) 1 = (fatsR (idE d.rate d.drop nmA f) (oneD d)).mapIdx (fatOf 1 (d.evs.mapIdx fun j x => ⟨j, idC f, x, ⟨x.inn, x.out⟩⟩)) := by
  unfold conFats; rw [if_pos hE, conSt_shape, hents]
 have hV : (conDoc (oneD d) (idE d.rate d.drop nmA f) 1).evs = evsOf (d.evs.mapIdx fun j x => ⟨j, idC f, x, ⟨x.inn, x.out⟩⟩) := by
  unfold conDoc; rw [if_pos hE]; simp only; rw [con_evs, hents]
 have hfr : fatsR (idE d.rate d.drop nmA f) (oneD d) = d.evs.map fun x => ⟨nmA, x.id, [], lostS ⟨x.inn, x.out⟩ (plE (idE d.rate d.drop nmA f) nmA), []⟩ := by
  unfold fatsR oneD fatsD
  simp
 refine ⟨hE, ?_, ?_, ?_, fun k x hx => ?_⟩
 · rw [hV, evsOf_len, List.length_mapIdx]
 · rw [hF, List.length_mapIdx, hfr, List.length_map]
 · unfold conDoc
   rw [if_pos hE]
   simp [langD, oneD]
 · have hx1 := hev x (List.mem_of_getElem? hx)
   have hent : (d.evs.mapIdx fun j x => (⟨j, idC f, x, ⟨x.inn, x.out⟩⟩ : Ent))[k]? = some ⟨k, idC f, x, ⟨x.inn, x.out⟩⟩ := by rw [List.getElem?_mapIdx, hx]; rfl
   have hpl := plE_ok he nmA
   refine ⟨_, _, by rw [hV]; exact evsOf_at hent, by rw [hF, List.getElem?_mapIdx, hfr, List.getElem?_map, hx]; rfl, rfl, ?_, ?_, ?_⟩
   · show lostS ⟨x.inn, x.out⟩ (plE (idE d.rate d.drop nmA f) nmA) = 0
     obtain ⟨k1, k2, k3, k4⟩ := rest_ok (l := plE (idE d.rate d.drop nmA f) nmA) (a := 0) hpl.1 hpl.2.1 (by unfold maxT; omega)
     have hmx : x.out ≤ maxT := by have := hp.o1; have h5 : (idC f).pc.out = f := rfl; unfold maxT; omega
     have hmy : x.inn ≤ x.out := by omega
     have hb := lost_bd (s := ⟨x.inn, x.out⟩) (p := plE (idE d.rate d.drop nmA f) nmA) hx1.1 hmy hmx hpl.1 hpl.2.1
     unfold lostS at hb ⊢
     have hc := sum_count (N := f.toNat) (comm_full ⟨x.inn, x.out⟩ (restF 0 (plE (idE d.rate d.drop nmA f) nmA))) (comm_apt _ k2) (fun y hy => by
      rw [comm_one] at hy
      obtain ⟨z, hz, h⟩ := List.mem_flatMap.1 hy
      split at h
      · simp at h; subst h; simp only; omega
      · simp at h)
     rw [hc]
     have : ((List.range f.toNat).countP fun k : Nat => spInB (commS [⟨x.inn, x.out⟩] (restF 0 (plE (idE d.rate d.drop nmA f) nmA))) (k : Int)) = 0 := by
      rw [List.countP_eq_zero]
      intro t _ ht
      obtain ⟨h1, h2⟩ := comm_mem.1 ((spInB_inn _ _).1 ht)
      simp only at h1
      have h3 := (k4 t).1 h2
      have hin : Inn (plE (idE d.rate d.drop nmA f) nmA) t := by
       unfold plE
       rw [if_pos he, (joinS_ok _).2.1]
       refine ⟨(idC f).pl, ?_, ?_⟩
       · unfold plC
         exact List.mem_map.2 ⟨idC f, List.mem_filter.2 ⟨List.mem_singleton.2 rfl, by simp [idC]⟩, rfl⟩
       · have hsr : srcAt (idC f) (f - 1) = f - 1 := by rw [srcAt_one rfl rfl]; show (0 : Int) + (f - 1 - 0) = f - 1; omega
         show (0 : Int) ≤ t ∧ (t : Int) < srcAt (idC f) (f - 1) + 1
         rw [hsr]
         omega
      exact h3.2.2 hin
     rw [this]
     rfl
   · show (idsW (atI k) _).length = 1
     refine len_one (a := (k : Int) + 1) (idsW_nodup _ _) fun y => ?_
     rw [mem_idsW]
     constructor
     · rintro ⟨j, t, h1, h2, rfl⟩
       rw [List.getElem?_mapIdx] at h1
       cases hj : d.evs[j]? with
       | none => rw [hj] at h1; cases h1
       | some z =>
        rw [hj] at h1
        cases h1
        simp [atI] at h2
        rw [h2]
     · rintro rfl
       exact ⟨k, _, hent, by simp [atI], rfl⟩
   · show (idsW (fun t => atI k t && shI 1 t) _).length = 0
     rw [List.length_eq_zero_iff, List.eq_nil_iff_forall_not_mem]
     intro y hy
     obtain ⟨j, t, h1, h2, -⟩ := mem_idsW.1 hy
     rw [List.getElem?_mapIdx] at h1
     cases hj : d.evs[j]? with
     | none => rw [hj] at h1; cases h1
     | some z =>
      rw [hj] at h1
      cases h1
      have := hev z (List.mem_of_getElem? hj)
      simp [shI] at h2
      omega
end Go.Proofs.YtablhmobekmflaaGreatDoor
/-! LawCfId -/
namespace Go.Proofs.YtablhmobekmflaaGreatDoor
open Go.RowKit
theorem oneD_at {w : World} {d : Doc} {h : DocH} (ha : DocAt w d h) (hs : DocSz h) : RDocsAt (w.alloc (.cells #[.string nmA, .string d.title, .string d.lang, .int .u8 d.rate, .bool d.drop, .int .i64 d.last, .slice h.ra h.rn h.rc, .slice h.ea h.en h.ec, .slice h.ca h.cn h.cc] 58)) (some ⟨w.heap.size, 0, none⟩) 1 (oneD d) := by
 have hx := (Ext.refl w).alloc (.cells #[.string nmA, .string d.title, .string d.lang, .int .u8 d.rate, .bool d.drop, .int .i64 d.last, .slice h.ra h.rn h.rc, .slice h.ea h.en h.ec, .slice h.ca h.cn h.cc] 58)
 have hB := Blk.new w 58 #[.string nmA, .string d.title, .string d.lang, .int .u8 d.rate, .bool d.drop, .int .i64 d.last, .slice h.ra h.rn h.rc, .slice h.ea h.en h.ec, .slice h.ca h.cn h.cc]
 refine ⟨rfl, fun _ => ⟨_, 0, rfl, fun i x hi => ?_⟩⟩
 match i, hi with
 | 0, hi =>
  unfold oneD at hi
  simp at hi
  subst hi
  exact ⟨h, fun j u hu => by rw [show 0 + 0 * 9 + j = j by omega, hB.cell]; simpa [RDoc.cells] using hu, ha.ext hx, hs⟩
 | i + 1, hi => unfold oneD at hi; simp at hi
theorem oneD_fit {d : Doc} (h : DocFit d) : RDocsFit (oneD d) := ⟨fun x hx => by unfold oneD at hx; simp at hx; subst hx; exact (by decide : nmA.size ≤ 9223372036854775807), fun x hx => by unfold oneD at hx; simp at hx; subst hx; exact h⟩
set_option maxRecDepth 100000 in
set_option maxHeartbeats 16000000 in
theorem ConformIdentity_any (d : Doc) (h : DocH) (f : Int) (w : World) (hE : Env w) (ht : TabU w) (hat : DocAt w d h) (hi : DocIn d h) (hf : I64 f) :
 Calls Tryz.prog 8 #[.agg (d.cells h), .int .i64 f] w fun en w' => en = .returned (.bool true) ∧ Ext w w' := by
 obtain ⟨W1, hW1⟩ : ∃ W1, W1 = w.alloc (.cells (d.cells h) 52) := ⟨_, rfl⟩
 have HX : Hid (Ext w W1) := by show Ext _ _; rw [hW1]; exact (Ext.refl w).alloc _
 have HB : Hid (Blk W1 w.heap.size 52 (d.cells h)) := by show Blk _ _ _ _; rw [hW1]; exact Blk.new w _ _
 have HAw := Lib.hid (fun w' (hx : Ext w w') => awake46_any w' (hE.ext hx) (ht.ext hx))
 have HCk := Lib.hid (fun w' (hx : Ext w w') => DCheck_any d h w' (hE.ext hx) (hat.ext hx) hi.fit hi.rn hi.en (by have := hi.cn; omega))
 have HSp := Lib.hid (fun w' (hx : Ext w w') => DSpan_any d h w' (hat.evs.ext hx) hi.en)
 have HId := Lib.hid (fun w' (hx : Ext w w') => Identity_any d.rate d.drop nmA f w' (hE.ext hx) hi.fit.ok.r0 hi.fit.ok.r1 (by decide) hf)
 have HCo := Lib.hid (fun w' g A5 n5 c5 (hx : Ext w w') (hl : RDocsAt w' (some ⟨g, 0, none⟩) 1 (oneD d)) (hc : CutsAt w' A5 n5 (idE d.rate d.drop nmA f).cuts) (hm : n5 ≤ 1000000) => Conform_any (oneD d) (some ⟨g, 0, none⟩) 1 1 (idE d.rate d.drop nmA f) A5 n5 c5 1 w' (hE.ext hx) hl hc hm (idE_edlok hi.fit.ok.r0 hi.fit.ok.r1 (by decide) hf) (by decide) (oneD_fit hi.fit))
 have HBk := Lib.hid (fun (h0 : d.err = 0) (h1 : d.evs.length ≤ 40) (h2 : (spL d.evs).2 ≤ f) (h3 : edlErr (idE d.rate d.drop nmA f) = 0) => con_back h0 h1 h2 h3)
 have HFit := Lib.hid (fun (h3 : conE (oneD d) (idE d.rate d.drop nmA f) 1 = 0) => con_fats h3)
 have HAt := Lib.hid (hat.ext HX.out)
 have HSz : Hid (d.err = 0 → DocSz h) := fun h0 => by
  have h1 := (doc_ok h0)
  have h2 := hat.regs.len
  have h3 := hi.en
  have h4 := hi.cn
  have h5 : d.regs.length ≤ 16 := by have := h1.2.1; unfold regsErr at this; split at this; omega; omega
  exact ⟨by omega, h3, h4⟩
 have hle : d.evs.length = h.en := hat.evs.len
 have hen := hi.en
 clear hE ht hat hi hf
 unfold ConPost at HCo
 unfold EdlPost at HId
 obtain ⟨hra, nr, hrc, hea, nd, hec, hca, nc, hcc⟩ := h
 unfold Doc.cells at HB HCk HSp hW1 ⊢
 dsimp only at *
 go_enter Tryz.func8, Tryz.ntmps8
 go_upto_region 1 with fail
 rw [← hW1]
 clear hW1
 go_wp2_with fail
 refine (HAw.out _ HX.out).mono ?_
 rintro en w_65 ⟨rfl, hx_66⟩
 have HX_67 := Lib.hid (HX.out.trans hx_66)
 have HB_68 := Lib.hid (HB.out.ext hx_66)
 have HF_69 := Lib.hid (HAt.out.ext hx_66)
 clear hx_66 HX HB HAt
 by_cases hn : nd ≤ 40
 case neg =>
  have hni : ¬ (nd : Int) ≤ 40 := by omega
  have hc_70 := fun o => HB_68.out.cell o
  go_wp2_with fail
  clear hc_70
  go_ret
  exact ⟨rfl, HX_67.out⟩
 have hni : (nd : Int) ≤ 40 := by omega
 have hc_71 := fun o => HB_68.out.cell o
 go_wp2_with fail
 clear hc_71
 refine (HCk.out _ HX_67.out).mono ?_
 rintro en w_72 ⟨rfl, hx_73⟩
 have HX_74 := Lib.hid (HX_67.out.trans hx_73)
 have HB_75 := Lib.hid (HB_68.out.ext hx_73)
 have HF_76 := Lib.hid (HF_69.out.ext hx_73)
 clear hx_73 HX_67 HB_68 HF_69
 by_cases hd : d.err = 0
 case neg =>
  have hdn : (d.err != 0) = true := by simpa using hd
  clear hd
  have hc_77 := fun o => HB_75.out.cell o
  go_wp2_with fail
  clear hc_77
  go_ret
  exact ⟨rfl, HX_74.out⟩
 have hdn : (d.err != 0) = false := by simpa using hd
 have HD0 := Lib.hid hd
 clear hd
 have hc_78 := fun o => HB_75.out.cell o
 go_wp2_with fail
 clear hc_78
 refine (HSp.out _ HX_74.out).mono ?_
 rintro en w_79 ⟨rfl, hx_80⟩
 have HX_81 := Lib.hid (HX_74.out.trans hx_80)
 have HB_82 := Lib.hid (HB_75.out.ext hx_80)
 have HF_83 := Lib.hid (HF_76.out.ext hx_80)
 clear hx_80 HX_74 HB_75 HF_76
 have hfl : ∀ w : World, (Instr.field 60 (.agg #[.int .i64 (spL d.evs).1, .int .i64 (spL d.evs).2]) 1).run Tryz.prog w = .ok (.int .i64 (spL d.evs).2) w := fun _ => by kernel_rfl
 by_cases hs : (spL d.evs).2 ≤ f
 case neg =>
  have hs2 : decide ((spL d.evs).2 > f) = true := decide_eq_true (by omega)
  have hs3 : f < (spL d.evs).2 := by omega
  have hc_84 := fun o => HB_82.out.cell o
  go_wp2_with fail
  clear hc_84
  go_ret
  exact ⟨rfl, HX_81.out⟩
 have hs2 : ¬ f < (spL d.evs).2 := by omega
 have HS0 := Lib.hid hs
 unfold nmA at HId
 have hc_85 := fun o => HB_82.out.cell o
 go_wp2_with fail
 clear hc_85
 refine (HId.out _ HX_81.out).mono ?_
 rintro en w_86 ⟨A5, n5, c5, rfl, hcu, -, hx_87⟩
 have HCu := Lib.hid hcu
 clear hcu HId
 have HX_88 := Lib.hid (HX_81.out.trans hx_87)
 have HB_89 := Lib.hid (HB_82.out.ext hx_87)
 have HF_90 := Lib.hid (HF_83.out.ext hx_87)
 clear hx_87 HX_81 HB_82 HF_83
 change Hid (CutsAt w_86 A5 n5 (identE d.rate d.drop nmA f).cuts) at HCu
 unfold Edl.cells
 by_cases he : edlErr (idE d.rate d.drop nmA f) = 0
 case neg =>
  have he1 : ¬ edlErr (idE d.rate d.drop ⟨#[65]⟩ f) = 0 := he
  have hen2 : (edlErr (idE d.rate d.drop ⟨#[65]⟩ f) != 0) = true := by simpa using he1
  clear he he1
  have hc_91 := fun o => HB_89.out.cell o
  go_wp2_with fail
  clear hc_91
  go_ret
  exact ⟨rfl, HX_88.out.alloc _⟩
 have he1 : edlErr (idE d.rate d.drop ⟨#[65]⟩ f) = 0 := he
 have hid : identE d.rate d.drop ⟨#[65]⟩ f = idE d.rate d.drop ⟨#[65]⟩ f := ident_ok he
 have hid2 : identE d.rate d.drop nmA f = idE d.rate d.drop nmA f := ident_ok he
 rw [hid2] at HCu
 rw [hid, he1]
 clear he1
 have HBa := Lib.hid (HBk.out HD0.out (by omega) HS0.out he)
 clear hid hid2 HBk he
 obtain rfl : 1 = n5 := HCu.out.1
 unfold idE
 dsimp only
 go_upto_region 6 with fail
 have HB_92 := Lib.hid (Blk.new w_86 28 #[.string ⟨#[]⟩, .int .u8 d.rate, .bool d.drop, .slice A5 1 c5])
 have ha_93 := (Ext.refl w_86).alloc (.cells #[.string ⟨#[]⟩, .int .u8 d.rate, .bool d.drop, .slice A5 1 c5] 28)
 have HX_94 := Lib.hid (HX_88.out.trans ha_93)
 have HB_95 := Lib.hid (HB_89.out.ext ha_93)
 have HF_96 := Lib.hid (HF_90.out.ext ha_93)
 have HF_97 := Lib.hid (HCu.out.ext ha_93)
 clear ha_93 HX_88 HB_89 HF_90 HCu
 generalize w_86.alloc (.cells #[.string ⟨#[]⟩, .int .u8 d.rate, .bool d.drop, .slice A5 1 c5] 28) = w_98 at *
 generalize w_86.heap.size = gl_99 at *
 go_upto_region 8 with fail
 have HR := Lib.hid (oneD_at (w := w_98) HF_96.out (HSz.out HD0.out))
 have HX8 := Lib.hid (HX_94.out.alloc (.cells #[.string ⟨#[65]⟩, .string d.title, .string d.lang, .int .u8 d.rate, .bool d.drop, .int .i64 d.last, .slice hra nr hrc, .slice hea nd hec, .slice hca nc hcc] 58))
 have HB8 := Lib.hid (HB_92.out.alloc (.cells #[.string ⟨#[65]⟩, .string d.title, .string d.lang, .int .u8 d.rate, .bool d.drop, .int .i64 d.last, .slice hra nr hrc, .slice hea nd hec, .slice hca nc hcc] 58))
 unfold nmA at HR
 dsimp only at HR
 go_wp2_with (first | (refine wpList_loadB rfl 52 (.tmp 2) rfl w.heap.size 52 _ _ (by exact rfl) (by exact HB_95.out) Tryz.underlying52 rfl (by exact size_docI) ?_) | (refine wpList_loadB rfl 28 (.tmp 5) rfl gl_99 28 _ _ (by exact rfl) (by exact HB8.out) Tryz.underlying28 rfl (by exact size_list) ?_))
 have HCz := Lib.hid (HCo.out _ w_98.heap.size A5 1 c5 HX8.out HR.out (CutsAt.ext HF_97.out ((Ext.refl w_98).alloc _)) (by decide))
 rw [HBa.out.ok, show (idE d.rate d.drop nmA f).cells A5 1 c5 = #[.string ⟨#[]⟩, .int .u8 d.rate, .bool d.drop, .slice A5 1 c5] from rfl] at HCz
 clear HCo
 have hx8 := (Ext.refl w_98).alloc (.cells #[.string ⟨#[65]⟩, .string d.title, .string d.lang, .int .u8 d.rate, .bool d.drop, .int .i64 d.last, .slice hra nr hrc, .slice hea nd hec, .slice hca nc hcc] 58)
 have HX_100 := Lib.hid (HX_94.out.trans hx8)
 have HB_101 := Lib.hid (HB_95.out.ext hx8)
 have HB_102 := Lib.hid (HB_92.out.ext hx8)
 have HF_103 := Lib.hid (HF_96.out.ext hx8)
 have HF_104 := Lib.hid (HF_97.out.ext hx8)
 clear hx8 HX8 HB8 HR HX_94 HB_95 HB_92 HF_96 HF_97
 refine HCz.out.mono ?_
 rintro en w_105 ⟨⟨ora, on, orc, oea, oe, oec, oca, oc, occ⟩, AF, fc, rfl, hoat, -, hoft, hx_106⟩
 have HOa := Lib.hid hoat
 have HFa := Lib.hid hoft
 clear hoat hoft HCz
 have HX_107 := Lib.hid (HX_100.out.trans hx_106)
 have HB_108 := Lib.hid (HB_101.out.ext hx_106)
 have HB_109 := Lib.hid (HB_102.out.ext hx_106)
 have HF_110 := Lib.hid (HF_103.out.ext hx_106)
 have HF_111 := Lib.hid (HF_104.out.ext hx_106)
 clear hx_106 HX_100 HB_101 HB_102 HF_103 HF_104
 unfold Doc.cells
 dsimp only
 have HFi := Lib.hid (HFit.out HBa.out.ok)
 clear HFit
 have HLn := Lib.hid HBa.out.len
 have HFl := Lib.hid HBa.out.flen
 have HLa := Lib.hid HBa.out.lang
 have HBt := Lib.hid HBa.out.at_
 clear HBa
 generalize conDoc (oneD d) (idE d.rate d.drop nmA f) 1 = D at *
 generalize conFats (oneD d) (idE d.rate d.drop nmA f) 1 = F at *
 go_upto_region 9 with fail
 have HB_112 := Lib.hid (Blk.new w_105 52 #[.string D.title, .string D.lang, .int .u8 D.rate, .bool D.drop, .int .i64 D.last, .slice ora on orc, .slice oea oe oec, .slice oca oc occ])
 have ha_113 := (Ext.refl w_105).alloc (.cells #[.string D.title, .string D.lang, .int .u8 D.rate, .bool D.drop, .int .i64 D.last, .slice ora on orc, .slice oea oe oec, .slice oca oc occ] 52)
 have HX_114 := Lib.hid (HX_107.out.trans ha_113)
 have HB_115 := Lib.hid (HB_108.out.ext ha_113)
 have HB_116 := Lib.hid (HB_109.out.ext ha_113)
 have HF_117 := Lib.hid (HF_110.out.ext ha_113)
 have HF_118 := Lib.hid (HF_111.out.ext ha_113)
 have HF_119 := Lib.hid (HOa.out.ext ha_113)
 have HF_120 := Lib.hid (HFa.out.ext ha_113)
 clear ha_113 HX_107 HB_108 HB_109 HF_110 HF_111 HOa HFa
 generalize w_105.alloc (.cells #[.string D.title, .string D.lang, .int .u8 D.rate, .bool D.drop, .int .i64 D.last, .slice ora on orc, .slice oea oe oec, .slice oca oc occ] 52) = w_121 at *
 generalize w_105.heap.size = go_122 at *
 have ho1 : D.evs.length = oe := HF_119.out.evs.len
 obtain rfl : nd = oe := by rw [← ho1, ← hle]; exact HLn.out.symm
 have hlg : D.lang = d.lang := HLa.out
 have hfl2 : F.length = nd := by rw [← hle]; exact HFl.out
 have hq0 : (d.lang.toList == d.lang.toList) = true := by simp
 rw [hfl2] at HF_120 ⊢
 have HBd := HB_115
 have HBo := HB_112
 have hcd := fun o => HBd.out.cell o
 have hco := fun o => HBo.out.cell o
 rw [hlg] at hco
 clear hlg ho1
 go_wp2_with fail
 clear hcd hco
 have HE1 := Lib.hid HF_117.out.evs
 have HE2 := Lib.hid HF_119.out.evs
 have HFz := HF_120
 have HXn := HX_114
 clear HFl hfl2
 go_loopw [79] (fun i wr => VlRel w_121 nd i wr) (fun i _ => nd - (intOf i).toNat)
 case atStart => exact ⟨0, Nat.zero_le _, rfl, Ext.refl _⟩
 case round =>
  obtain ⟨k, hk, rfl, hx⟩ := hrel
  by_cases hlt : k < nd
  · obtain ⟨b1, off1, y, Ay, ny, cy, hA1, hy, hya, c0, c1, c2, c3, c4, c5, c6⟩ := (HE2.out.ext hx).at_ev hlt
    obtain ⟨b2, off2, x, Ax, nx, cx, hA2, hxx, hxa, e0, e1, e2, e3, e4, e5, e6⟩ := (HE1.out.ext hx).at_ev hlt
    subst hA1 hA2
    obtain ⟨y', f', h1, h2, h3, h4, h5, h6⟩ := HBt.out k x hxx
    rw [hy] at h1
    obtain rfl := Option.some.inj h1
    have hny := hya.len
    have hnx := hxa.len
    rw [h3] at hny
    obtain rfl : nx = ny := by rw [← hny, ← hnx]; rfl
    rw [h3] at c0 c1 c2 c3 c4 c5
    simp only [Ev.as] at c0 c1 c2 c3 c4 c5
    obtain ⟨bF, offF, f'', pA, pc, sA, sc, hAF, hfk', -, -, f0, f1, f2, f3, f4⟩ := (HFz.out.ext hx).at5 hlt
    rw [h2] at hfk'
    obtain rfl := Option.some.inj hfk'
    subst hAF
    rw [h4] at f3
    rw [h5] at f2
    rw [h6] at f4
    clear hy hxx hya hxa h1 h2 h3 h4 h5 h6 hfk' hny hnx
    have HX1 := Lib.hid hx
    clear hx
    have HX2 := Lib.hid (HX1.out.alloc (.cells #[.int .i64 ((k : Int) + 1), .int .i64 x.inn, .int .i64 x.out, .string x.region, .int .u8 x.kind, .string x.speaker, .slice Ay nx cy] 64))
    have HBy := Lib.hid (Blk.new wr 64 #[.int .i64 ((k : Int) + 1), .int .i64 x.inn, .int .i64 x.out, .string x.region, .int .u8 x.kind, .string x.speaker, .slice Ay nx cy])
    go_upto_region 14 with fail
    clear c0 c1 c2 c3 c4 c5 c6
    have hxy := (Ext.refl wr).alloc (.cells #[.int .i64 ((k : Int) + 1), .int .i64 x.inn, .int .i64 x.out, .string x.region, .int .u8 x.kind, .string x.speaker, .slice Ay nx cy] 64)
    replace e0 := hxy.cell e0
    replace e1 := hxy.cell e1
    replace e2 := hxy.cell e2
    replace e3 := hxy.cell e3
    replace e4 := hxy.cell e4
    replace e5 := hxy.cell e5
    replace e6 := hxy.cell e6
    replace f2 := hxy.cell f2
    replace f3 := hxy.cell f3
    replace f4 := hxy.cell f4
    clear hxy
    generalize wr.alloc (.cells #[.int .i64 ((k : Int) + 1), .int .i64 x.inn, .int .i64 x.out, .string x.region, .int .u8 x.kind, .string x.speaker, .slice Ay nx cy] 64) = W2 at *
    generalize wr.heap.size = gy at *
    have hcd := fun o => (HBd.out.ext HX2.out).cell o
    have HX3 := Lib.hid (HX2.out.alloc (.cells #[.int .i64 x.id, .int .i64 x.inn, .int .i64 x.out, .string x.region, .int .u8 x.kind, .string x.speaker, .slice Ax nx cx] 64))
    have HBx := Lib.hid (Blk.new W2 64 #[.int .i64 x.id, .int .i64 x.inn, .int .i64 x.out, .string x.region, .int .u8 x.kind, .string x.speaker, .slice Ax nx cx])
    have HBz := Lib.hid (HBy.out.alloc (.cells #[.int .i64 x.id, .int .i64 x.inn, .int .i64 x.out, .string x.region, .int .u8 x.kind, .string x.speaker, .slice Ax nx cx] 64))
    go_upto_region 15 with fail
    clear e0 e1 e2 e3 e4 e5 e6 hcd
    have hxy := (Ext.refl W2).alloc (.cells #[.int .i64 x.id, .int .i64 x.inn, .int .i64 x.out, .string x.region, .int .u8 x.kind, .string x.speaker, .slice Ax nx cx] 64)
    replace f2 := hxy.cell f2
    replace f3 := hxy.cell f3
    replace f4 := hxy.cell f4
    clear hxy
    generalize W2.alloc (.cells #[.int .i64 x.id, .int .i64 x.inn, .int .i64 x.out, .string x.region, .int .u8 x.kind, .string x.speaker, .slice Ax nx cx] 64) = W3 at *
    generalize W2.heap.size = gx at *
    have hcy := fun o => HBz.out.cell o
    have hcx := fun o => HBx.out.cell o
    have hq : ∀ w : World, (binOp .neq 60 (.agg #[.int .i64 x.inn, .int .i64 x.out]) (.agg #[.int .i64 x.inn, .int .i64 x.out])).run Tryz.prog w = .ok (.bool false) w := fun w => by simpa using neq_spn ⟨x.inn, x.out⟩ ⟨x.inn, x.out⟩ w
    have hq1 : (x.region.toList == x.region.toList) = true := by simp
    have hq2 : (x.speaker.toList == x.speaker.toList) = true := by simp
    go_wp2_with fail
    exact ⟨⟨k + 1, by omega, by go_num, HX3.out⟩, by simp [intOf]; omega⟩
  · obtain rfl : k = nd := by omega
    have HXz := Lib.hid (HXn.out.trans hx)
    go_wp2_with fail
    go_ret
    exact ⟨rfl, HXz.out⟩
end Go.Proofs.YtablhmobekmflaaGreatDoor