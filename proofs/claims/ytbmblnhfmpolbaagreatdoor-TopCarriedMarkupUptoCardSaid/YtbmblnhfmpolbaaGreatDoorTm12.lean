/- Texts laid together. -/
import Derived.Test.YtbmblnhfmpolbaaGreatDoorTm11
set_option linter.unusedVariables false
set_option linter.unusedSimpArgs false
namespace Go.Proofs.YtbmblnhfmpolbaaGreatDoor
section
open Go.RowKit
def prevN (l : List Reg) : Nat → Option ByteArray | 0 => none | k + 1 => (l[k]?).map (·.name)
theorem regs_step {l : List Reg} {k : Nat} {r : Reg} {E : Int} (hr : l[k]? = some r) (hP : E = regsLoop (prevN l k) (l.drop k)) :
 (r.check ≠ 0 → E = r.check) ∧ (r.check = 0 → prevN l k = some r.name → E = 7) ∧ (r.check = 0 → prevN l k ≠ some r.name → ((prevN l k).map fun q => Op.bytesLess r.name.toList q.toList) = some true → E = 8) ∧
  (r.check = 0 → prevN l k ≠ some r.name → ((prevN l k).map fun q => Op.bytesLess r.name.toList q.toList) ≠ some true → E = regsLoop (prevN l (k + 1)) (l.drop (k + 1))) := by
 rw [drop_at l k r hr] at hP
 unfold regsLoop at hP
 have hn : prevN l (k + 1) = some r.name := by simp [prevN, hr]
 refine ⟨fun h => ?_, fun h h1 => ?_, fun h h1 h2 => ?_, fun h h1 h2 => ?_⟩
 · rw [if_pos h] at hP; exact hP
 · rw [if_neg (by omega), if_pos h1] at hP; exact hP
 · rw [if_neg (by omega), if_neg h1, if_pos h2] at hP; exact hP
 · rw [if_neg (by omega), if_neg h1, if_neg h2] at hP; rw [hP, hn]
theorem prev_reg {w : World} {A : Option Addr} {n : Nat} {l : List Reg} (h : RegsAt w A n l) {k : Nat} (hk : k ≤ n) (h0 : 0 < k) : ∃ b off q, A = some ⟨b, off, none⟩ ∧ w.cell? ⟨b, off + (k - 1) * 7, none⟩ = some (.string q) ∧ prevN l k = some q := by
 obtain ⟨j, rfl⟩ : ∃ j, k = j + 1 := ⟨k - 1, by omega⟩
 obtain ⟨b, off, r, hA, hr, hc⟩ := h.at_ (i := j) (by omega)
 exact ⟨b, off, r.name, hA, by simpa using hc.1, by simp [prevN, hr]⟩
def ListRel (w : World) (n : Nat) (l : List Reg) (i : Value) (wr : World) : Prop := ∃ k : Nat, k ≤ n ∧ i = .int .i64 k ∧ Ext w wr ∧ regsLoop none l = regsLoop (prevN l k) (l.drop k)
theorem toList_eq_iff (x y : ByteArray) : (x.toList == y.toList) = decide (x = y) := by
 by_cases h : x = y
 · subst h; simp
 · rw [decide_eq_false h, beq_eq_false_iff_ne]
   intro he
   rw [ByteArray.toList_eq, ByteArray.toList_eq] at he
   exact h (by cases x; cases y; simp_all [Array.toList_inj])
set_option maxRecDepth 100000 in
set_option maxHeartbeats 4000000 in
theorem CheckList_any (A : Option Addr) (n c : Nat) (l : List Reg) (w : World) (hl : RegsAt w A n l) (hn : n ≤ 9223372036854775807) (hs : RegsSmall l) :
 Calls Tryz.prog 37 #[.slice A n c] w fun en w' => en = .returned (.int .i64 (regsErr l)) ∧ Ext w w' := by
 have HL := Lib.hid hl
 have HLn := Lib.hid hl.len
 have HSm := Lib.hid hs
 have HF : Hid (regsErr l = if 16 < l.length then 9 else regsLoop none l) := rfl
 rw [hl.len] at HF
 clear hl hs
 by_cases h16 : 16 < n
 · have h16i : (16 : Int) < (n : Int) := by omega
   go_enter Tryz.func37, Tryz.ntmps37
   go_wp2_with fail
   go_ret
   exact ⟨ret_int (by rw [HF.out, if_pos h16]), Ext.refl _⟩
 have h16i : ¬ (16 : Int) < (n : Int) := by omega
 have HG := Lib.hid (HF.out.trans (if_neg h16))
 go_enter Tryz.func37, Tryz.ntmps37
 go_wp2_with fail
 go_loopw [11] (fun i wr => ListRel w n l i wr) (fun i _ => n - (intOf i).toNat)
 case atStart => exact ⟨0, Nat.zero_le _, rfl, Ext.refl _, by simp [prevN]⟩
 case round =>
  obtain ⟨k, hk, rfl, hx, hP⟩ := hrel
  have HXr := Lib.hid hx
  by_cases hlt : k < n
  · obtain ⟨b, off, r, rfl, hr, c0, c1, c2, c3, c4, c5, c6⟩ := (HL.out.ext hx).at_ hlt
    have HS := Lib.hid (regs_step hr hP)
    have HPv := Lib.hid (fun h0 => prev_reg (HL.out.ext hx) (k := k) hk h0)
    have HCk := Lib.hid (fun w' => RCheck_any r w' (HSm.out r (List.mem_of_getElem? hr)))
    clear hr hP
    have HBc := Lib.hid (Blk.new wr 53 #[.string r.name, .int .i64 r.top, .int .i64 r.height, .int .i64 r.left, .int .i64 r.width, .int .u8 r.align, .bool r.bottom])
    have HXc := Lib.hid ((Ext.refl wr).alloc (.cells #[.string r.name, .int .i64 r.top, .int .i64 r.height, .int .i64 r.left, .int .i64 r.width, .int .u8 r.align, .bool r.bottom] 53))
    unfold Reg.val at HCk
    go_wp2_with (refine wpList_loadB rfl 53 (.tmp 4) rfl wr.heap.size 53 _ _ (by exact rfl) (by exact HBc.out) Tryz.underlying53 rfl (by exact info_reg) ?_)
    refine (HCk.out _).mono ?_
    rintro en w2 ⟨rfl, hx2⟩
    have HX2 := Lib.hid (HXc.out.trans hx2)
    have HB2 := Lib.hid (HBc.out.ext hx2)
    have hcb := fun o => HB2.out.cell o
    clear hx2 c0 c1 c2 c3 c4 c5 c6 HBc HXc
    by_cases hce : r.check = 0
    case neg =>
     have hne : (r.check != 0) = true := by simpa using hce
     have HC := Lib.hid hce
     clear hce
     go_wp2_with fail
     go_ret
     exact ⟨ret_int (by rw [HG.out, HS.out.1 HC.out]), hx.trans HX2.out⟩
    rw [hce]
    have HC := Lib.hid hce
    clear hce
    by_cases hk0 : k = 0
    · subst hk0
      have HN := Lib.hid (HS.out.2.2.2 HC.out (by simp [prevN]) (by simp [prevN]))
      go_wp2_with fail
      go_quiet (fail)
      go_wp2_with fail
      go_quiet (fail)
      go_wp2_with fail
      exact ⟨⟨1, by omega, by go_num, (hx.trans HX2.out).drewN _, HN.out⟩, by simp [intOf]; omega⟩
    obtain ⟨b', off', q, hA, p0, hq⟩ := HPv.out (by omega)
    cases hA
    have hki : (0 : Int) < (k : Int) := by omega
    have hkp : 0 < k := by omega
    have hk1 : ((k : Int) - 1).toNat = k - 1 := by omega
    have hk2 : (k : Int) - 1 = ((k - 1 : Nat) : Int) := by omega
    have pp0 := HX2.out.cell p0
    have HQ := Lib.hid hq
    clear p0 hq
    by_cases he : q = r.name
    · have he' : (r.name.toList == q.toList) = true := by rw [toList_eq_iff]; simpa using he.symm
      have HE := Lib.hid (HS.out.2.1 HC.out (by rw [HQ.out, he]))
      clear he
      go_wp2_with fail
      go_quiet (fail)
      go_wp2_with fail
      go_ret
      exact ⟨ret_int (by rw [HG.out, HE.out]), (hx.trans HX2.out).drewN _⟩
    have he' : (r.name.toList == q.toList) = false := by rw [toList_eq_iff]; simpa using fun h => he h.symm
    have HNe : Hid (prevN l k ≠ some r.name) := by show _ ≠ _; rw [HQ.out]; simpa using he
    clear he
    cases hl2 : Op.bytesLess r.name.toList q.toList
    case true =>
     have HE := Lib.hid (HS.out.2.2.1 HC.out HNe.out (by rw [HQ.out]; simp [hl2]))
     go_wp2_with fail
     go_quiet (fail)
     go_wp2_with fail
     go_quiet (fail)
     go_wp2_with fail
     go_ret
     exact ⟨ret_int (by rw [HG.out, HE.out]), ((hx.trans HX2.out).drewN _).drewN _⟩
    case false =>
     have HE := Lib.hid (HS.out.2.2.2 HC.out HNe.out (by rw [HQ.out]; simp [hl2]))
     go_wp2_with fail
     go_quiet (fail)
     go_wp2_with fail
     go_quiet (fail)
     go_wp2_with fail
     exact ⟨⟨k + 1, by omega, by go_num, (hx.trans HX2.out).drewN _, HE.out⟩, by simp [intOf]; omega⟩
  · have hkn : k = n := by omega
    subst hkn
    have HE := Lib.hid (hP.trans (by rw [List.drop_eq_nil_of_le (by have := HLn.out; omega)]; rfl) : regsLoop none l = 0)
    clear hP
    go_wp2_with fail
    go_ret
    exact ⟨ret_int (by rw [HG.out, HE.out]), hx⟩
end
section
open Go.RowKit Go.Maps
def prevC (l : List Com) : Nat → Option Int | 0 => none | k + 1 => (l[k]?).map (·.id)
def Com.err (c : Com) (last : Int) (evs : List Ev) (p : Option Int) : Int :=
 if c.id < 1 ∨ last < c.id then 2 else if (p.map fun q => decide (c.id ≤ q)) = some true then 8 else if (findE evs c.id).isSome = true then 7 else
  if c.anchorErr last evs ≠ 0 then c.anchorErr last evs else if nameB c.author = false then 5 else if vld c.text = false then 10 else if c.text.toList.isEmpty = true then 4 else if 400 < c.text.size then 9 else 0
theorem coms_cons (last : Int) (evs : List Ev) (p : Option Int) (c : Com) (l : List Com) : comsLoop last evs p (c :: l) = if c.err last evs p ≠ 0 then c.err last evs p else comsLoop last evs (some c.id) l := by
 rw [comsLoop]
 unfold Com.err
 repeat' split
 all_goals first | rfl | omega | simp_all
theorem coms_step {l : List Com} {k : Nat} {c : Com} {E last : Int} {evs : List Ev} (hc : l[k]? = some c) (hP : E = comsLoop last evs (prevC l k) (l.drop k)) :
 (c.err last evs (prevC l k) ≠ 0 → E = c.err last evs (prevC l k)) ∧ (c.err last evs (prevC l k) = 0 → E = comsLoop last evs (prevC l (k + 1)) (l.drop (k + 1))) := by
 rw [drop_at l k c hc, coms_cons] at hP
 refine ⟨fun h => by rw [if_pos h] at hP; exact hP, fun h => ?_⟩
 rw [if_neg (by simpa using h)] at hP
 rw [hP]
 simp [prevC, hc]
section
variable {c : Com} {last : Int} {evs : List Ev} {p : Option Int}
theorem com_1 (h : c.id < 1 ∨ last < c.id) : c.err last evs p = 2 := by unfold Com.err; rw [if_pos h]
theorem com_2 (h : ¬ (c.id < 1 ∨ last < c.id)) (h1 : (p.map fun q => decide (c.id ≤ q)) = some true) : c.err last evs p = 8 := by unfold Com.err; rw [if_neg h, if_pos h1]
theorem com_3 (h : ¬ (c.id < 1 ∨ last < c.id)) (h1 : ¬ (p.map fun q => decide (c.id ≤ q)) = some true) (h2 : (findE evs c.id).isSome = true) : c.err last evs p = 7 := by unfold Com.err; rw [if_neg h, if_neg h1, if_pos h2]
theorem com_4 (h : ¬ (c.id < 1 ∨ last < c.id)) (h1 : ¬ (p.map fun q => decide (c.id ≤ q)) = some true) (h2 : (findE evs c.id).isSome = false) (h3 : c.anchorErr last evs ≠ 0) : c.err last evs p = c.anchorErr last evs := by unfold Com.err; rw [if_neg h, if_neg h1, if_neg (by simp [h2]), if_pos h3]
theorem com_r (h : ¬ (c.id < 1 ∨ last < c.id)) (h1 : ¬ (p.map fun q => decide (c.id ≤ q)) = some true) (h2 : (findE evs c.id).isSome = false) (h3 : c.anchorErr last evs = 0) :
 c.err last evs p = if nameB c.author = false then 5 else if vld c.text = false then 10 else if c.text.toList.isEmpty = true then 4 else if 400 < c.text.size then 9 else 0 := by unfold Com.err; rw [if_neg h, if_neg h1, if_neg (by simp [h2]), if_neg (by simpa using h3)]
end
theorem prev_com {w : World} {A : Option Addr} {n : Nat} {l : List Com} (h : ComsAt w A n l) {k : Nat} (hk : k ≤ n) (h0 : 0 < k) : ∃ b off q, A = some ⟨b, off, none⟩ ∧ w.cell? ⟨b, off + (k - 1) * 8, none⟩ = some (.int .i64 q) ∧ prevC l k = some q := by
 obtain ⟨j, rfl⟩ : ∃ j, k = j + 1 := ⟨k - 1, by omega⟩
 obtain ⟨b, off, c, hA, hc, c0, _⟩ := h.at8 (i := j) (by omega)
 exact ⟨b, off, c.id, hA, by simpa using c0, by simp [prevC, hc]⟩
def ComsOk (l : List Com) : Prop := ∀ c ∈ l, IW c.id ∧ IW c.ev ∧ c.author.size ≤ 9223372036854775807 ∧ c.text.size ≤ 9223372036854775807
def ComRel (w1 : World) (n : Nat) (last : Int) (evs : List Ev) (l : List Com) (i : Value) (wr : World) : Prop := ∃ k : Nat, k ≤ n ∧ i = .int .i64 k ∧ Ext w1 wr ∧ comsLoop last evs none l = comsLoop last evs (prevC l k) (l.drop k)
theorem size_com : (Tryz.prog.info? 64).map (·.size) = some 8 := by kernel_rfl
theorem size_doc : (Tryz.prog.info? 27).map (·.size) = some 8 := by kernel_rfl
def comsErr (last : Int) (evs : List Ev) (l : List Com) : Int := if 64 < l.length then 9 else comsLoop last evs none l
set_option maxRecDepth 100000 in
set_option maxHeartbeats 8000000 in
theorem comments_any (d : Doc) (h : DocH) (B : Nat) (w : World) (hE : Env w) (hat : DocAt w d h) (hm : MapE w 3 B d.evs) (hsm : EvsSmall d.evs) (hn : h.en ≤ 1000000) (hcn : h.cn ≤ 9223372036854775807) (hco : ComsOk d.coms) :
 Calls Tryz.prog 40 #[.agg (d.cells h), .map (some B)] w fun en w' => en = .returned (.int .i64 (comsErr d.last d.evs d.coms)) ∧ Ext w w' := by
 have HX := Lib.hid ((Ext.refl w).alloc (.cells (d.cells h) 27))
 have HB := Lib.hid (Blk.new w 27 (d.cells h))
 have HCs := Lib.hid hat.coms
 have HCl := Lib.hid hat.coms.len
 have HE := Lib.hid hE
 have HM := Lib.hid hm
 have HOk := Lib.hid hco
 have HAn := Lib.hid (fun (c : Com) (hc : c ∈ d.coms) w' (hx : Ext w w') => anchored_any d h c B w' (hE.ext hx) (hat.ext hx) (hm.ext hx) hsm hn (hco c hc).2.1)
 have HF : Hid (comsErr d.last d.evs d.coms = if 64 < d.coms.length then 9 else comsLoop d.last d.evs none d.coms) := rfl
 rw [hat.coms.len] at HF
 have HmB := hm.lt
 clear hat hsm hm hE hco
 unfold Doc.cells at *
 obtain ⟨hra, hrn, hrc, hea, hen, hec, hca, n, hcc⟩ := h
 dsimp only at *
 go_enter Tryz.func40, Tryz.ntmps40
 by_cases h64 : 64 < n
 · have h64i : (64 : Int) < (n : Int) := by omega
   go_wp2_with fail
   go_ret
   exact ⟨ret_int (by rw [HF.out, if_pos h64]), HX.out⟩
 have h64i : ¬ (64 : Int) < (n : Int) := by omega
 have HG := Lib.hid (HF.out.trans (if_neg h64))
 clear h64 HF
 go_wp2_with fail
 go_loopw [17] (fun i wr => ComRel (w.alloc (.cells #[.string d.title, .string d.lang, .int .u8 d.rate, .bool d.drop, .int .i64 d.last, .slice hra hrn hrc, .slice hea hen hec, .slice hca n hcc] 27)) n d.last d.evs d.coms i wr) (fun i _ => n - (intOf i).toNat)
 case atStart => exact ⟨0, Nat.zero_le _, rfl, Ext.refl _, by simp [prevC]⟩
 case round =>
  obtain ⟨k, hk, rfl, hx, hP⟩ := hrel
  have HXr := Lib.hid (HX.out.trans hx)
  have HBr := Lib.hid (HB.out.ext hx)
  have hbl := HBr.out.lt
  by_cases hlt : k < n
  · obtain ⟨b, off, c, rfl, hc, c0, c1, c2, c3, c4, c5, c6, c7⟩ := (HCs.out.ext HXr.out).at8 hlt
    have hcm := List.mem_of_getElem? hc
    have HS := Lib.hid (coms_step hc hP)
    have HPv := Lib.hid (fun h0 => prev_com (HCs.out.ext HXr.out) (k := k) hk h0)
    have HAc := Lib.hid (fun w' hx => HAn.out c hcm w' hx)
    have HIw := Lib.hid (HOk.out c hcm)
    have HKey := Lib.hid (HOk.out c hcm).1.key
    have HNm := Lib.hid (fun w' => Name_any c.author w' (HOk.out c hcm).2.2.1)
    have HVl := Lib.hid (fun w' (hx : Ext w w') => Valid_any c.text w' (HE.out.ext hx) (HOk.out c hcm).2.2.2)
    clear hc hP hcm
    have E1 := Lib.hid (fun p => @com_1 c d.last d.evs p)
    have E2 := Lib.hid (fun p => @com_2 c d.last d.evs p)
    have E3 := Lib.hid (fun p => @com_3 c d.last d.evs p)
    have E4 := Lib.hid (fun p => @com_4 c d.last d.evs p)
    have E5 := Lib.hid (fun p => @com_r c d.last d.evs p)
    unfold Com.cells at HAc
    have HBc := Lib.hid (Blk.new wr 64 #[.int .i64 c.id, .int .i64 c.ev, .int .i64 c.fr, .int .i64 c.til, .string c.author, .string c.text, .bool c.done, .bool c.lost])
    have HXc := Lib.hid ((Ext.refl wr).alloc (.cells #[.int .i64 c.id, .int .i64 c.ev, .int .i64 c.fr, .int .i64 c.til, .string c.author, .string c.text, .bool c.done, .bool c.lost] 64))
    have HBl := Lib.hid (HBr.out.ext HXc.out)
    have HX2 := Lib.hid (HXr.out.trans HXc.out)
    obtain ⟨nm, Dm, hown, hnm, hmap, hhas, hatk⟩ := HM.out.ext HX2.out
    have HOw := Lib.hid hown
    have hhas2 := hhas c.id HIw.out.1
    clear hown hmap hhas hatk
    have hdl := fun o => HBl.out.cell o
    by_cases hi1 : c.id < 1
    · have HR := Lib.hid (HS.out.1 (by rw [E1.out _ (.inl hi1)]; decide))
      have HV := Lib.hid (E1.out (prevC d.coms k) (.inl hi1))
      clear hhas2
      go_wp2_with (at_lookup; refine wpList_lookup_own_ok_int _ rfl _ _ 116 rfl 2 3 .i64 key64 Tryz.underlying116 Tryz.underlying3 (zero_int _) B nm Dm rfl (by exact HOw.out) _ _ rfl (by exact HKey.out) ?_; intro c0 hat hwc; have HAt0 := Lib.hid hat; clear hat hwc)
      go_ret
      exact ⟨ret_int (by rw [HG.out, HR.out, HV.out]), HX2.out⟩
    by_cases hi2 : d.last < c.id
    · have HR := Lib.hid (HS.out.1 (by rw [E1.out _ (.inr hi2)]; decide))
      have HV := Lib.hid (E1.out (prevC d.coms k) (.inr hi2))
      clear hhas2
      go_wp2_with (at_lookup; refine wpList_lookup_own_ok_int _ rfl _ _ 116 rfl 2 3 .i64 key64 Tryz.underlying116 Tryz.underlying3 (zero_int _) B nm Dm rfl (by exact HOw.out) _ _ rfl (by exact HKey.out) ?_; intro c0 hat hwc; have HAt0 := Lib.hid hat; clear hat hwc)
      go_ret
      exact ⟨ret_int (by rw [HG.out, HR.out, HV.out]), HX2.out⟩
    have HNo : Hid (¬ (c.id < 1 ∨ d.last < c.id)) := by show ¬ _; omega
    clear E1
    by_cases hk0 : k = 0
    case pos =>
     subst hk0
     simp only [Nat.zero_mul, Nat.add_zero] at c0 c1 c2 c3 c4 c5 c6 c7
     have HPn : Hid (¬ ((prevC d.coms 0).map fun q => decide (c.id ≤ q)) = some true) := by show ¬ _; simp [prevC]
     cases hfs : (findE d.evs c.id).isSome
     case true =>
      have HR := Lib.hid (HS.out.1 (by rw [E3.out _ HNo.out HPn.out hfs]; decide))
      have HV := Lib.hid (E3.out (prevC d.coms 0) HNo.out HPn.out hfs)
      rw [hfs] at hhas2
      clear hfs
      go_wp2_with (at_lookup; refine wpList_lookup_own_ok_int _ rfl _ _ 116 rfl 2 3 .i64 key64 Tryz.underlying116 Tryz.underlying3 (zero_int _) B nm Dm rfl (by exact HOw.out) _ _ rfl (by exact HKey.out) ?_; intro c0 hat hwc; have HAt0 := Lib.hid hat; clear hat hwc)
      go_quiet (fail)
      go_wp2_with fail
      go_ret
      exact ⟨ret_int (by rw [HG.out, HR.out, HV.out]), HX2.out.drewN _⟩
     case false =>
      have HFs := Lib.hid hfs
      rw [hfs] at hhas2
      clear hfs
      go_wp2_with (at_lookup; refine wpList_lookup_own_ok_int _ rfl _ _ 116 rfl 2 3 .i64 key64 Tryz.underlying116 Tryz.underlying3 (zero_int _) B nm Dm rfl (by exact HOw.out) _ _ rfl (by exact HKey.out) ?_; intro c0 hat hwc; have HAt0 := Lib.hid hat; clear hat hwc)
      go_quiet (fail)
      go_wp2_with (first | (refine wpList_loadB rfl 27 (.tmp 2) rfl w.heap.size 27 _ _ (by exact rfl) (by exact HBl.out.ext ((Ext.refl _).drewN _)) Tryz.underlying27 rfl (by exact size_doc) ?_) | (refine wpList_loadB rfl 64 (.tmp 6) rfl wr.heap.size 64 _ _ (by exact rfl) (by exact HBc.out.ext ((Ext.refl _).drewN _)) Tryz.underlying64 rfl (by exact size_com) ?_))
      refine (HAc.out _ (HX2.out.drewN _)).mono ?_
      rintro en w3 ⟨rfl, hx3⟩
      have HX3 := Lib.hid ((HX2.out.drewN _).trans hx3)
      have HX3r := Lib.hid ((HXc.out.drewN _).trans hx3)
      have HB3 := Lib.hid ((HBc.out.ext ((Ext.refl _).drewN _)).ext hx3)
      clear hx3 hdl hhas2
      have hk3 := fun o => HB3.out.cell o
      by_cases hae : c.anchorErr d.last d.evs = 0
      case neg =>
       have hne : (c.anchorErr d.last d.evs != 0) = true := by simpa using hae
       have HV := Lib.hid (E4.out (prevC d.coms 0) HNo.out HPn.out HFs.out hae)
       have HR := Lib.hid (HS.out.1 (by rw [HV.out]; exact hae))
       clear hae
       go_wp2_with fail
       go_ret
       exact ⟨ret_int (by rw [HG.out, HR.out, HV.out]), HX3.out⟩
      rw [hae]
      have HV := Lib.hid (E5.out (prevC d.coms 0) HNo.out HPn.out HFs.out hae)
      clear hae E2 E3 E4 E5
      go_wp2_with fail
      refine (HNm.out _).mono ?_
      rintro en w4 ⟨rfl, hx4⟩
      subst hx4
      cases hna : nameB c.author
      case false =>
       have HW := Lib.hid (HV.out.trans (if_pos hna))
       have HR := Lib.hid (HS.out.1 (by rw [HW.out]; decide))
       clear hna
       go_wp2_with fail
       go_ret
       exact ⟨ret_int (by rw [HG.out, HR.out, HW.out]), HX3.out⟩
      have HW := Lib.hid (HV.out.trans (if_neg (by simp [hna])))
      clear hna HV
      go_wp2_with fail
      refine (HVl.out _ HX3.out).mono ?_
      rintro en w5 ⟨rfl, hx5⟩
      have HX5 := Lib.hid (HX3.out.trans hx5)
      have HX5r := Lib.hid (HX3r.out.trans hx5)
      have HB5 := Lib.hid (HB3.out.ext hx5)
      clear hx5 hk3
      have hk5 := fun o => HB5.out.cell o
      cases hva : vld c.text
      case false =>
       have HW2 := Lib.hid (HW.out.trans (if_pos hva))
       have HR := Lib.hid (HS.out.1 (by rw [HW2.out]; decide))
       clear hva
       go_wp2_with fail
       go_ret
       exact ⟨ret_int (by rw [HG.out, HR.out, HW2.out]), HX5.out⟩
      have HW2 := Lib.hid (HW.out.trans (if_neg (by simp [hva])))
      clear hva HW
      cases hem : c.text.toList.isEmpty
      case true =>
       have HW3 := Lib.hid (HW2.out.trans (if_pos hem))
       have HR := Lib.hid (HS.out.1 (by rw [HW3.out]; decide))
       go_wp2_with fail
       go_ret
       exact ⟨ret_int (by rw [HG.out, HR.out, HW3.out]), HX5.out⟩
      have HW3 := Lib.hid (HW2.out.trans (if_neg (by simp [hem])))
      by_cases h4 : 400 < c.text.size
      · have h4i : (400 : Int) < (c.text.size : Int) := by omega
        have HW4 := Lib.hid (HW3.out.trans (if_pos h4))
        have HR := Lib.hid (HS.out.1 (by rw [HW4.out]; decide))
        go_wp2_with fail
        go_ret
        exact ⟨ret_int (by rw [HG.out, HR.out, HW4.out]), HX5.out⟩
      have h4i : ¬ (400 : Int) < (c.text.size : Int) := by omega
      have HR := Lib.hid (HS.out.2 (HW3.out.trans (if_neg h4)))
      go_wp2_with fail
      exact ⟨⟨1, by omega, by go_num, hx.trans HX5r.out, HR.out⟩, by simp [intOf]; omega⟩
    obtain ⟨b', off', q, hA, p0, hq⟩ := HPv.out (by omega)
    cases hA
    have hki : (0 : Int) < (k : Int) := by omega
    have hkp : 0 < k := by omega
    have hk1 : ((k : Int) - 1).toNat = k - 1 := by omega
    have hk2 : (k : Int) - 1 = ((k - 1 : Nat) : Int) := by omega
    have pp0 := HXc.out.cell p0
    have HQ := Lib.hid hq
    clear p0 hq
    by_cases hle : c.id ≤ q
    case pos =>
     have HV := Lib.hid (E2.out (prevC d.coms k) HNo.out (by rw [HQ.out]; simpa using hle))
     have HR := Lib.hid (HS.out.1 (by rw [HV.out]; decide))
     clear hhas2
     go_wp2_with (at_lookup; refine wpList_lookup_own_ok_int _ rfl _ _ 116 rfl 2 3 .i64 key64 Tryz.underlying116 Tryz.underlying3 (zero_int _) B nm Dm rfl (by exact HOw.out) _ _ rfl (by exact HKey.out) ?_; intro c0 hat hwc; have HAt0 := Lib.hid hat; clear hat hwc)
     go_quiet (fail)
     go_wp2_with fail
     go_ret
     exact ⟨ret_int (by rw [HG.out, HR.out, HV.out]), HX2.out.drewN _⟩
    have HPn : Hid (¬ ((prevC d.coms k).map fun q => decide (c.id ≤ q)) = some true) := by show ¬ _; rw [HQ.out]; simpa using hle
    cases hfs : (findE d.evs c.id).isSome
    case true =>
     have HR := Lib.hid (HS.out.1 (by rw [E3.out _ HNo.out HPn.out hfs]; decide))
     have HV := Lib.hid (E3.out (prevC d.coms k) HNo.out HPn.out hfs)
     rw [hfs] at hhas2
     clear hfs
     go_wp2_with (at_lookup; refine wpList_lookup_own_ok_int _ rfl _ _ 116 rfl 2 3 .i64 key64 Tryz.underlying116 Tryz.underlying3 (zero_int _) B nm Dm rfl (by exact HOw.out) _ _ rfl (by exact HKey.out) ?_; intro c0 hat hwc; have HAt0 := Lib.hid hat; clear hat hwc)
     go_quiet (fail)
     go_wp2_with fail
     go_ret
     exact ⟨ret_int (by rw [HG.out, HR.out, HV.out]), HX2.out.drewN _⟩
    case false =>
     have HFs := Lib.hid hfs
     rw [hfs] at hhas2
     clear hfs
     go_wp2_with (at_lookup; refine wpList_lookup_own_ok_int _ rfl _ _ 116 rfl 2 3 .i64 key64 Tryz.underlying116 Tryz.underlying3 (zero_int _) B nm Dm rfl (by exact HOw.out) _ _ rfl (by exact HKey.out) ?_; intro c0 hat hwc; have HAt0 := Lib.hid hat; clear hat hwc)
     go_quiet (fail)
     go_wp2_with (first | (refine wpList_loadB rfl 27 (.tmp 2) rfl w.heap.size 27 _ _ (by exact rfl) (by exact HBl.out.ext ((Ext.refl _).drewN _)) Tryz.underlying27 rfl (by exact size_doc) ?_) | (refine wpList_loadB rfl 64 (.tmp 6) rfl wr.heap.size 64 _ _ (by exact rfl) (by exact HBc.out.ext ((Ext.refl _).drewN _)) Tryz.underlying64 rfl (by exact size_com) ?_))
     refine (HAc.out _ (HX2.out.drewN _)).mono ?_
     rintro en w3 ⟨rfl, hx3⟩
     have HX3 := Lib.hid ((HX2.out.drewN _).trans hx3)
     have HX3r := Lib.hid ((HXc.out.drewN _).trans hx3)
     have HB3 := Lib.hid ((HBc.out.ext ((Ext.refl _).drewN _)).ext hx3)
     clear hx3 hdl hhas2
     have hk3 := fun o => HB3.out.cell o
     by_cases hae : c.anchorErr d.last d.evs = 0
     case neg =>
      have hne : (c.anchorErr d.last d.evs != 0) = true := by simpa using hae
      have HV := Lib.hid (E4.out (prevC d.coms k) HNo.out HPn.out HFs.out hae)
      have HR := Lib.hid (HS.out.1 (by rw [HV.out]; exact hae))
      clear hae
      go_wp2_with fail
      go_ret
      exact ⟨ret_int (by rw [HG.out, HR.out, HV.out]), HX3.out⟩
     rw [hae]
     have HV := Lib.hid (E5.out (prevC d.coms k) HNo.out HPn.out HFs.out hae)
     clear hae E2 E3 E4 E5
     go_wp2_with fail
     refine (HNm.out _).mono ?_
     rintro en w4 ⟨rfl, hx4⟩
     subst hx4
     cases hna : nameB c.author
     case false =>
      have HW := Lib.hid (HV.out.trans (if_pos hna))
      have HR := Lib.hid (HS.out.1 (by rw [HW.out]; decide))
      clear hna
      go_wp2_with fail
      go_ret
      exact ⟨ret_int (by rw [HG.out, HR.out, HW.out]), HX3.out⟩
     have HW := Lib.hid (HV.out.trans (if_neg (by simp [hna])))
     clear hna HV
     go_wp2_with fail
     refine (HVl.out _ HX3.out).mono ?_
     rintro en w5 ⟨rfl, hx5⟩
     have HX5 := Lib.hid (HX3.out.trans hx5)
     have HX5r := Lib.hid (HX3r.out.trans hx5)
     have HB5 := Lib.hid (HB3.out.ext hx5)
     clear hx5 hk3
     have hk5 := fun o => HB5.out.cell o
     cases hva : vld c.text
     case false =>
      have HW2 := Lib.hid (HW.out.trans (if_pos hva))
      have HR := Lib.hid (HS.out.1 (by rw [HW2.out]; decide))
      clear hva
      go_wp2_with fail
      go_ret
      exact ⟨ret_int (by rw [HG.out, HR.out, HW2.out]), HX5.out⟩
     have HW2 := Lib.hid (HW.out.trans (if_neg (by simp [hva])))
     clear hva HW
     cases hem : c.text.toList.isEmpty
     case true =>
      have HW3 := Lib.hid (HW2.out.trans (if_pos hem))
      have HR := Lib.hid (HS.out.1 (by rw [HW3.out]; decide))
      go_wp2_with fail
      go_ret
      exact ⟨ret_int (by rw [HG.out, HR.out, HW3.out]), HX5.out⟩
     have HW3 := Lib.hid (HW2.out.trans (if_neg (by simp [hem])))
     by_cases h4 : 400 < c.text.size
     · have h4i : (400 : Int) < (c.text.size : Int) := by omega
       have HW4 := Lib.hid (HW3.out.trans (if_pos h4))
       have HR := Lib.hid (HS.out.1 (by rw [HW4.out]; decide))
       go_wp2_with fail
       go_ret
       exact ⟨ret_int (by rw [HG.out, HR.out, HW4.out]), HX5.out⟩
     have h4i : ¬ (400 : Int) < (c.text.size : Int) := by omega
     have HR := Lib.hid (HS.out.2 (HW3.out.trans (if_neg h4)))
     go_wp2_with fail
     exact ⟨⟨k + 1, by omega, by go_num, hx.trans HX5r.out, HR.out⟩, by simp [intOf]; omega⟩
  · have hkn : k = n := by omega
    subst hkn
    have HZ := Lib.hid (hP.trans (by rw [List.drop_eq_nil_of_le (by have := HCl.out; omega)]; rfl) : comsLoop d.last d.evs none d.coms = 0)
    clear hP
    go_wp2_with fail
    go_ret
    exact ⟨ret_int (by rw [HG.out, HZ.out]), HXr.out⟩
end
end Go.Proofs.YtbmblnhfmpolbaaGreatDoor