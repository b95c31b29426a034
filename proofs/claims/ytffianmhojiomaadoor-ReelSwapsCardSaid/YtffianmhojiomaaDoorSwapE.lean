/- The walk of reel.Swap up to the copy: its first errors. -/
import Derived.Test.YtffianmhojiomaaDoorOnly
namespace Go.Proofs.YtffianmhojiomaaDoor
set_option linter.unusedVariables false
set_option linter.unusedSimpArgs false
open Go.RowKit

def cutI (l : List Cut) (k : Nat) : Cut := (l[k]?).getD ⟨0, ⟨#[]⟩, 0, 0, 0, 0, 0⟩
/-- the errors of Swap ahead of the copy -/
def swapPre (e : Edl) (a b : ByteArray) : Int :=
  if edlErr e ≠ 0 then edlErr e else if a = b then 1 else if cntI e.cuts a e.cuts.length = 0 ∨ cntI e.cuts b e.cuts.length = 0 then 6 else if 1 < cntI e.cuts a e.cuts.length ∨ 1 < cntI e.cuts b e.cuts.length then 7 else
    if (cutI e.cuts (lastI e.cuts a e.cuts.length)).out - (cutI e.cuts (lastI e.cuts a e.cuts.length)).inn ≠ (cutI e.cuts (lastI e.cuts b e.cuts.length)).out - (cutI e.cuts (lastI e.cuts b e.cuts.length)).inn then 1 else 0
theorem wp_alloc_cut {o : Oper} {a : Act} {w : World} {K : Act → World → Prop} {Q : Exit → Act → World → Prop} (ho : o.op = .alloc 67) (h : K (a.put o.dst (.pointer (some ⟨w.heap.size, 0, none⟩))) (w.alloc (.cells #[.int .i64 0, .string ⟨#[]⟩, .int .i64 0, .int .i64 0, .int .i64 0, .int .i64 0, .int .i64 0] 67))) : o.wp Tryd.prog a w K Q := by
  obtain ⟨dst, op, ty, pos, after, guard⟩ := o
  simp only at ho
  subst ho
  go_simp
  exact h
def edlZero : Array Value := #[.string ⟨#[]⟩, .int .u8 0, .bool false, .slice none 0 0]
section
variable {e : Edl} {a b : ByteArray} {n : Nat}
theorem pre_edl (h : edlErr e ≠ 0) : swapPre e a b = edlErr e := by unfold swapPre; rw [if_pos h]
theorem pre_same (h : edlErr e = 0) (h1 : a = b) : swapPre e a b = 1 := by unfold swapPre; rw [if_neg (by omega), if_pos h1]
theorem pre_none (hn : e.cuts.length = n) (h : edlErr e = 0) (h1 : ¬ a = b) (h2 : cntI e.cuts a n = 0 ∨ cntI e.cuts b n = 0) : swapPre e a b = 6 := by subst hn; unfold swapPre; rw [if_neg (by omega), if_neg h1, if_pos h2]
theorem pre_many (hn : e.cuts.length = n) (h : edlErr e = 0) (h1 : ¬ a = b) (h2 : ¬ (cntI e.cuts a n = 0 ∨ cntI e.cuts b n = 0)) (h3 : 1 < cntI e.cuts a n ∨ 1 < cntI e.cuts b n) : swapPre e a b = 7 := by subst hn; unfold swapPre; rw [if_neg (by omega), if_neg h1, if_neg h2, if_pos h3]
theorem pre_len (hn : e.cuts.length = n) (h : edlErr e = 0) (h1 : ¬ a = b) (h2 : ¬ (cntI e.cuts a n = 0 ∨ cntI e.cuts b n = 0)) (h3 : ¬ (1 < cntI e.cuts a n ∨ 1 < cntI e.cuts b n))
    (h4 : (cutI e.cuts (lastI e.cuts a n)).out - (cutI e.cuts (lastI e.cuts a n)).inn ≠ (cutI e.cuts (lastI e.cuts b n)).out - (cutI e.cuts (lastI e.cuts b n)).inn) : swapPre e a b = 1 := by subst hn; unfold swapPre; rw [if_neg (by omega), if_neg h1, if_neg h2, if_neg h3, if_pos h4]
theorem pre_ok (hn : e.cuts.length = n) (h : edlErr e = 0) (h1 : ¬ a = b) (h2 : ¬ (cntI e.cuts a n = 0 ∨ cntI e.cuts b n = 0)) (h3 : ¬ (1 < cntI e.cuts a n ∨ 1 < cntI e.cuts b n))
    (h4 : (cutI e.cuts (lastI e.cuts a n)).out - (cutI e.cuts (lastI e.cuts a n)).inn = (cutI e.cuts (lastI e.cuts b n)).out - (cutI e.cuts (lastI e.cuts b n)).inn) : swapPre e a b = 0 := by subst hn; unfold swapPre; rw [if_neg (by omega), if_neg h1, if_neg h2, if_neg h3, if_neg (by simpa using h4)]
end
theorem CutsAt.at_cut {w : World} {A : Option Addr} {n : Nat} {l : List Cut} (h : CutsAt w A n l) {i : Nat} (hi : i < n) : ∃ b off, A = some ⟨b, off, none⟩ ∧ l[i]? = some (cutI l i) ∧
    (w.cell? ⟨b, off + i * 7, none⟩ = some (.int .i64 (cutI l i).num) ∧ w.cell? ⟨b, off + i * 7 + 1, none⟩ = some (.string (cutI l i).reel) ∧ w.cell? ⟨b, off + i * 7 + 2, none⟩ = some (.int .i64 (cutI l i).src) ∧ w.cell? ⟨b, off + i * 7 + 3, none⟩ = some (.int .i64 (cutI l i).inn) ∧
      w.cell? ⟨b, off + i * 7 + 4, none⟩ = some (.int .i64 (cutI l i).out) ∧ w.cell? ⟨b, off + i * 7 + 5, none⟩ = some (.int .i64 (cutI l i).n) ∧ w.cell? ⟨b, off + i * 7 + 6, none⟩ = some (.int .i64 (cutI l i).d)) := by
  obtain ⟨b, off, c, hA, hc, h⟩ := h.at7 hi
  have e : cutI l i = c := by unfold cutI; rw [hc]; rfl
  rw [e]
  exact ⟨b, off, hA, hc, h⟩
theorem pre_good {e : Edl} {a b : ByteArray} (h : swapPre e a b = 0) : edlErr e = 0 ∧ a ≠ b ∧ cntI e.cuts a e.cuts.length = 1 ∧ cntI e.cuts b e.cuts.length = 1 := by
  unfold swapPre at h
  repeat' split at h
  all_goals first | omega | skip
  refine ⟨by omega, by assumption, by omega, by omega⟩

set_option maxRecDepth 100000 in
set_option maxHeartbeats 8000000 in
theorem Swap_pre (e : Edl) (A : Option Addr) (n c : Nat) (a b : ByteArray) (w : World) (hE : Env w) (hl : CutsAt w A n e.cuts) (hn : n ≤ 1000000) (hok : EdlOk e) (hpre : swapPre e a b ≠ 0) :
    Calls Tryd.prog 14 #[.agg (e.cells A n c), .string a, .string b] w fun en w' => en = .returned (.tuple #[.agg edlZero, .int .i64 (swapPre e a b)]) ∧ Ext w w' := by
  have HPre := Lib.hid hpre
  clear hpre
  have HL := Lib.hid hl
  have HLn := Lib.hid hl.len
  have HX := Lib.hid (((Ext.refl w).alloc (.cells (e.cells A n c) 32)).alloc (.cells edlZero 32))
  have HB0 := Lib.hid ((Blk.new w 32 (e.cells A n c)).alloc (.cells edlZero 32))
  have HB1 := Lib.hid (Blk.new' (w := w.alloc (.cells (e.cells A n c) 32)) (g := w.heap.size + 1) (t := 32) (cs := edlZero) (by simp))
  have HCk := Lib.hid (fun w' (hx : Ext w w') => Check_any e A n c w' (hE.ext hx) (hl.ext hx) hn hok.r0 hok.r1 hok.title hok.fits)
  have HOn := Lib.hid (fun s w' (hx : Ext w w') => only_any e A n c s w' (hl.ext hx) hn)
  have HSn := Lib.hid (fun (h : edlErr e = 0) (c : Cut) (hc : c ∈ e.cuts) => edl_sane h hc)
  have P1 := Lib.hid (@pre_edl e a b)
  have P2 := Lib.hid (@pre_same e a b)
  have P3 := Lib.hid (@pre_none e a b n hl.len)
  have P4 := Lib.hid (@pre_many e a b n hl.len)
  have P5 := Lib.hid (@pre_len e a b n hl.len)
  have P6 := Lib.hid (@pre_ok e a b n hl.len)
  clear hl hok hE
  unfold Edl.cells edlZero at *
  go_enter Tryd.func14, Tryd.ntmps14
  go_wp2_with (refine wpList_loadB rfl 32 (.tmp 3) rfl w.heap.size 32 _ _ (by exact rfl) (by exact HB0.out) Tryd.underlying32 rfl (by exact size_list) ?_)
  refine (HCk.out _ HX.out).mono ?_
  rintro en w1 ⟨rfl, hx1⟩
  have HX1 := Lib.hid (HX.out.trans hx1)
  have HBl := Lib.hid (HB0.out.ext hx1)
  have HBr := Lib.hid (HB1.out.ext hx1)
  clear hx1 HB0 HB1 HX
  by_cases hee : edlErr e = 0
  case neg =>
    have hne : (edlErr e != 0) = true := by simpa using hee
    have HEr := Lib.hid hee
    clear hee
    go_wp2_with (refine wpList_storeB rfl 32 (.tmp 6) (.tmp 20) rfl (w.heap.size + 1) 32 _ _ (by exact rfl) (by exact rfl) (by exact HBr.out) (by exact rfl) (by exact size_list) (by simp [Value.oneCell']) ?_)
    refine bodyPost_ret (v := .tuple #[.agg #[.string ⟨#[]⟩, .int .u8 0, .bool false, .slice none 0 0], .int .i64 (edlErr e)]) ?_ rfl ⟨by rw [P1.out HEr.out], ?_⟩
    · exact results_B_tmp (P := Tryd.prog) Tryd.results14 (g := w.heap.size + 1) rfl (by exact HBr.out.put _) Tryd.underlying32 rfl size_list
    · exact HX1.out.put (by omega) _ _
  rw [hee]
  have HZ := Lib.hid hee
  clear hee P1
  go_wp2_with (refine wpList_loadB rfl 32 (.tmp 3) rfl w.heap.size 32 _ _ (by exact rfl) (by exact HBl.out) Tryd.underlying32 rfl (by exact size_list) ?_)
  refine (HOn.out a _ HX1.out).mono ?_
  rintro en w2 ⟨rfl, hx2⟩
  have HX2 := Lib.hid (HX1.out.trans hx2)
  have HBl2 := Lib.hid (HBl.out.ext hx2)
  have HBr2 := Lib.hid (HBr.out.ext hx2)
  clear hx2 HX1 HBl HBr
  go_wp2_with (refine wpList_loadB rfl 32 (.tmp 3) rfl w.heap.size 32 _ _ (by exact rfl) (by exact HBl2.out) Tryd.underlying32 rfl (by exact size_list) ?_)
  refine (HOn.out b _ HX2.out).mono ?_
  rintro en w3 ⟨rfl, hx3⟩
  have HX3 := Lib.hid (HX2.out.trans hx3)
  have HBl3 := Lib.hid (HBl2.out.ext hx3)
  have HBr3 := Lib.hid (HBr2.out.ext hx3)
  clear hx3 HX2 HBl2 HBr2 HOn
  by_cases hab : a = b
  · have hab' : (a.toList == b.toList) = true := by rw [bs_eq]; simpa using hab
    have HAB := Lib.hid hab
    clear hab
    go_wp2_with (refine wpList_storeB rfl 32 (.tmp 6) (.tmp 38) rfl (w.heap.size + 1) 32 _ _ (by exact rfl) (by exact rfl) (by exact HBr3.out) (by exact rfl) (by exact size_list) (by simp [Value.oneCell']) ?_)
    refine bodyPost_ret (v := .tuple #[.agg #[.string ⟨#[]⟩, .int .u8 0, .bool false, .slice none 0 0], .int .i64 (1)]) ?_ rfl ⟨by rw [P2.out HZ.out HAB.out], ?_⟩
    · exact results_B_tmp (P := Tryd.prog) Tryd.results14 (g := w.heap.size + 1) rfl (by exact HBr3.out.put _) Tryd.underlying32 rfl size_list
    · exact HX3.out.put (by omega) _ _
  have hab' : (a.toList == b.toList) = false := by rw [bs_eq]; simpa using hab
  have HAB := Lib.hid hab
  clear hab P2
  have HIa := Lib.hid (lastI_is e.cuts a n)
  have HIb := Lib.hid (lastI_is e.cuts b n)
  generalize hia : lastI e.cuts a n = ia at *
  generalize hib : lastI e.cuts b n = ib at *
  generalize hca : cntI e.cuts a n = ca at *
  generalize hcb : cntI e.cuts b n = cb at *
  have HGe := Lib.hid (And.intro hia (And.intro hib (And.intro hca hcb)))
  clear hia hib hca hcb
  by_cases hc0 : ca = 0
  · subst hc0
    go_wp2_with (refine wpList_storeB rfl 32 (.tmp 6) (.tmp 46) rfl (w.heap.size + 1) 32 _ _ (by exact rfl) (by exact rfl) (by exact HBr3.out) (by exact rfl) (by exact size_list) (by simp [Value.oneCell']) ?_)
    refine bodyPost_ret (v := .tuple #[.agg #[.string ⟨#[]⟩, .int .u8 0, .bool false, .slice none 0 0], .int .i64 (6)]) ?_ rfl ⟨by rw [P3.out HZ.out HAB.out (by simp)], ?_⟩
    · exact results_B_tmp (P := Tryd.prog) Tryd.results14 (g := w.heap.size + 1) rfl (by exact HBr3.out.put _) Tryd.underlying32 rfl size_list
    · exact HX3.out.put (by omega) _ _
  have hc0i : ¬ (ca : Int) = 0 := by omega
  have hc0b : ((ca : Int) == 0) = false := by simp; omega
  by_cases hd0 : cb = 0
  · subst hd0
    go_wp2_with (refine wpList_storeB rfl 32 (.tmp 6) (.tmp 46) rfl (w.heap.size + 1) 32 _ _ (by exact rfl) (by exact rfl) (by exact HBr3.out) (by exact rfl) (by exact size_list) (by simp [Value.oneCell']) ?_)
    refine bodyPost_ret (v := .tuple #[.agg #[.string ⟨#[]⟩, .int .u8 0, .bool false, .slice none 0 0], .int .i64 (6)]) ?_ rfl ⟨by rw [P3.out HZ.out HAB.out (by simp)], ?_⟩
    · exact results_B_tmp (P := Tryd.prog) Tryd.results14 (g := w.heap.size + 1) rfl (by exact HBr3.out.put _) Tryd.underlying32 rfl size_list
    · exact HX3.out.put (by omega) _ _
  have hd0i : ¬ (cb : Int) = 0 := by omega
  have hd0b : ((cb : Int) == 0) = false := by simp; omega
  have HNo : Hid (¬ (ca = 0 ∨ cb = 0)) := by show ¬ _; omega
  clear P3
  by_cases hc1 : 1 < ca
  · have hc1i : (1 : Int) < (ca : Int) := by omega
    go_wp2_with (refine wpList_storeB rfl 32 (.tmp 6) (.tmp 54) rfl (w.heap.size + 1) 32 _ _ (by exact rfl) (by exact rfl) (by exact HBr3.out) (by exact rfl) (by exact size_list) (by simp [Value.oneCell']) ?_)
    refine bodyPost_ret (v := .tuple #[.agg #[.string ⟨#[]⟩, .int .u8 0, .bool false, .slice none 0 0], .int .i64 (7)]) ?_ rfl ⟨by rw [P4.out HZ.out HAB.out HNo.out (.inl hc1)], ?_⟩
    · exact results_B_tmp (P := Tryd.prog) Tryd.results14 (g := w.heap.size + 1) rfl (by exact HBr3.out.put _) Tryd.underlying32 rfl size_list
    · exact HX3.out.put (by omega) _ _
  have hc1i : ¬ (1 : Int) < (ca : Int) := by omega
  by_cases hd1 : 1 < cb
  · have hd1i : (1 : Int) < (cb : Int) := by omega
    go_wp2_with (refine wpList_storeB rfl 32 (.tmp 6) (.tmp 54) rfl (w.heap.size + 1) 32 _ _ (by exact rfl) (by exact rfl) (by exact HBr3.out) (by exact rfl) (by exact size_list) (by simp [Value.oneCell']) ?_)
    refine bodyPost_ret (v := .tuple #[.agg #[.string ⟨#[]⟩, .int .u8 0, .bool false, .slice none 0 0], .int .i64 (7)]) ?_ rfl ⟨by rw [P4.out HZ.out HAB.out HNo.out (.inr hd1)], ?_⟩
    · exact results_B_tmp (P := Tryd.prog) Tryd.results14 (g := w.heap.size + 1) rfl (by exact HBr3.out.put _) Tryd.underlying32 rfl size_list
    · exact HX3.out.put (by omega) _ _
  have hd1i : ¬ (1 : Int) < (cb : Int) := by omega
  have HOne : Hid (¬ (1 < ca ∨ 1 < cb)) := by show ¬ _; omega
  clear P4
  obtain ⟨hia, hria⟩ := HIa.out (by omega)
  obtain ⟨hib, hrib⟩ := HIb.out (by omega)
  have HRa := Lib.hid hria
  have HRb := Lib.hid hrib
  clear hria hrib
  obtain ⟨bk, off, rfl, hra, c0, c1, c2, c3, c4, c5, c6⟩ := (HL.out.ext HX3.out).at_cut hia
  obtain ⟨bk', off', hA', hrb, d0, d1, d2, d3, d4, d5, d6⟩ := (HL.out.ext HX3.out).at_cut hib
  cases hA'
  have hsa := HSn.out HZ.out _ (List.mem_of_getElem? hra)
  have hsb := HSn.out HZ.out _ (List.mem_of_getElem? hrb)
  have HRra := Lib.hid hra
  have HRrb := Lib.hid hrb
  clear hra hrb HSn
  generalize cutI e.cuts ia = xa at *
  generalize cutI e.cuts ib = xb at *
  obtain ⟨num, rl, src, inn, out, nn, dd⟩ := xa
  obtain ⟨num', rl', src', inn', out', nn', dd'⟩ := xb
  obtain ⟨sa1, sa2, sa3, sa4, sa5, sa6, sa7, sa8, sa9⟩ := hsa
  obtain ⟨sb1, sb2, sb3, sb4, sb5, sb6, sb7, sb8, sb9⟩ := hsb
  dsimp only at *
  have hcl := fun o => HBl3.out.cell o
  go_wp2_with fail
  refine wp_region_allocs [some 55, some 56, some 57, some 58, some 59, some 60, some 61, some 62, some 63, some 64, some 13, some 14, none, none] [[], [0], [], [1, 2], [3], [], [5], [], [6, 7], [8], [], [], [10, 4, 0, 1, 2, 3, 4, 10, 11], [11, 9, 12, 0, 1, 2, 3, 4, 5, 6, 7, 8, 9, 10, 11, 12]] [12, 13] [10, 11] [.pointer (some ⟨w.heap.size, 3, none⟩), .slice (some ⟨bk, off, none⟩) n c, .int .i64 ia, .pointer (some ⟨bk, off + ia * 7, none⟩), .agg #[.int .i64 num, .string rl, .int .i64 src, .int .i64 inn, .int .i64 out, .int .i64 nn, .int .i64 dd], .pointer (some ⟨w.heap.size, 3, none⟩), .slice (some ⟨bk, off, none⟩) n c, .int .i64 ib, .pointer (some ⟨bk, off + ib * 7, none⟩), .agg #[.int .i64 num', .string rl', .int .i64 src', .int .i64 inn', .int .i64 out', .int .i64 nn', .int .i64 dd'], undef, undef, undef, undef] (fun _ => .cells #[.int .i64 0, .string ⟨#[]⟩, .int .i64 0, .int .i64 0, .int .i64 0, .int .i64 0, .int .i64 0] 67) (TwoJ 67 10 11 7 #[.int .i64 num, .string rl, .int .i64 src, .int .i64 inn, .int .i64 out, .int .i64 nn, .int .i64 dd] #[.int .i64 num', .string rl', .int .i64 src', .int .i64 inn', .int .i64 out', .int .i64 nn', .int .i64 dd'] w3) (by kernel_rfl) (by kernel_rfl) (by kernel_rfl) (by kernel_rfl) (by kernel_rfl) (by kernel_rfl) (by kernel_rfl) (by decide) (by kernel_rfl) ?_ ?_ ?_ ?_ ?_ ?_
  · exact twoJ_start w3
  · clear hcl
    intro i o ho ha a w' K' hk
    match i, ho with
    | 0, ho => simp at ha
    | 1, ho => simp at ha
    | 2, ho => simp at ha
    | 3, ho => simp at ha
    | 4, ho => simp at ha
    | 5, ho => simp at ha
    | 6, ho => simp at ha
    | 7, ho => simp at ha
    | 8, ho => simp at ha
    | 9, ho => simp at ha
    | 10, ho =>
      simp only [List.getElem?_toArray, List.getElem?_cons_zero, List.getElem?_cons_succ, Option.some.injEq] at ho
      subst ho
      exact wp_alloc_cut rfl hk
    | 11, ho =>
      simp only [List.getElem?_toArray, List.getElem?_cons_zero, List.getElem?_cons_succ, Option.some.injEq] at ho
      subst ho
      exact wp_alloc_cut rfl hk
    | 12, ho => simp at ha
    | 13, ho => simp at ha
    | i + 14, ho => simp at ho
  · clear hcl
    intro i ha us gs w' hJ hn hlim
    match i, ha with
    | 0, ha => simp at ha
    | 1, ha => simp at ha
    | 2, ha => simp at ha
    | 3, ha => simp at ha
    | 4, ha => simp at ha
    | 5, ha => simp at ha
    | 6, ha => simp at ha
    | 7, ha => simp at ha
    | 8, ha => simp at ha
    | 9, ha => simp at ha
    | 10, ha => exact twoJ_p hJ (by decide) rfl (hlim 0 12 rfl rfl)
    | 11, ha => exact twoJ_q hJ (by decide) rfl (by have := hlim 0 12 rfl rfl; omega)
    | 12, ha => simp at ha
    | 13, ha => simp at ha
    | i + 14, ha => simp at ha
  · clear hcl
    intro i o ho hc ha a w' us gs K' hJ hF hlim hk
    match i, ho with
    | 0, ho =>
      simp only [List.getElem?_toArray, List.getElem?_cons_zero, List.getElem?_cons_succ, Option.some.injEq] at ho
      subst ho
      have e3 := hF.old 3 (.pointer (some ⟨w.heap.size, 0, none⟩)) rfl rfl
      simp only [Act.eval] at e3
      clear hF hlim hJ
      go_simp
      exact hk
    | 1, ho =>
      simp only [List.getElem?_toArray, List.getElem?_cons_zero, List.getElem?_cons_succ, Option.some.injEq] at ho
      subst ho
      have e55 := hF.pure 0 55 (.pointer (some ⟨w.heap.size, 3, none⟩)) rfl rfl rfl rfl rfl
      have hcl : w'.cell? ⟨w.heap.size, 3, none⟩ = some (.slice (some ⟨bk, off, none⟩) n c) := (HBl3.out.ext hJ.ext).cell 3
      simp only [Act.eval] at e55
      clear hF hlim hJ
      go_simp
      exact hk
    | 2, ho =>
      simp only [List.getElem?_toArray, List.getElem?_cons_zero, List.getElem?_cons_succ, Option.some.injEq] at ho
      subst ho
      have e9 := hF.old 9 (.int .i64 ia) rfl rfl
      simp only [Act.eval] at e9
      clear hF hlim hJ
      go_simp
      exact hk
    | 3, ho =>
      simp only [List.getElem?_toArray, List.getElem?_cons_zero, List.getElem?_cons_succ, Option.some.injEq] at ho
      subst ho
      have e56 := hF.pure 1 56 (.slice (some ⟨bk, off, none⟩) n c) rfl rfl rfl rfl rfl
      have e57 := hF.pure 2 57 (.int .i64 ia) rfl rfl rfl rfl rfl
      have hix : ia < n := hia
      have hix2 : ¬ n ≤ ia := by omega
      simp only [Act.eval] at e56 e57
      clear hF hlim hJ
      go_simp
      exact hk
    | 4, ho =>
      simp only [List.getElem?_toArray, List.getElem?_cons_zero, List.getElem?_cons_succ, Option.some.injEq] at ho
      subst ho
      have e58 := hF.pure 3 58 (.pointer (some ⟨bk, off + ia * 7, none⟩)) rfl rfl rfl rfl rfl
      have h0 := hJ.ext.cell c0
      have h1 := hJ.ext.cell c1
      have h2 := hJ.ext.cell c2
      have h3 := hJ.ext.cell c3
      have h4 := hJ.ext.cell c4
      have h5 := hJ.ext.cell c5
      have h6 := hJ.ext.cell c6
      clear c0 c1 c2 c3 c4 c5 c6 d0 d1 d2 d3 d4 d5 d6
      simp only [Act.eval] at e58
      clear hF hlim hJ
      go_simp
      exact hk
    | 5, ho =>
      simp only [List.getElem?_toArray, List.getElem?_cons_zero, List.getElem?_cons_succ, Option.some.injEq] at ho
      subst ho
      have e3 := hF.old 3 (.pointer (some ⟨w.heap.size, 0, none⟩)) rfl rfl
      simp only [Act.eval] at e3
      clear hF hlim hJ
      go_simp
      exact hk
    | 6, ho =>
      simp only [List.getElem?_toArray, List.getElem?_cons_zero, List.getElem?_cons_succ, Option.some.injEq] at ho
      subst ho
      have e60 := hF.pure 5 60 (.pointer (some ⟨w.heap.size, 3, none⟩)) rfl rfl rfl rfl rfl
      have hcl : w'.cell? ⟨w.heap.size, 3, none⟩ = some (.slice (some ⟨bk, off, none⟩) n c) := (HBl3.out.ext hJ.ext).cell 3
      simp only [Act.eval] at e60
      clear hF hlim hJ
      go_simp
      exact hk
    | 7, ho =>
      simp only [List.getElem?_toArray, List.getElem?_cons_zero, List.getElem?_cons_succ, Option.some.injEq] at ho
      subst ho
      have e11 := hF.old 11 (.int .i64 ib) rfl rfl
      simp only [Act.eval] at e11
      clear hF hlim hJ
      go_simp
      exact hk
    | 8, ho =>
      simp only [List.getElem?_toArray, List.getElem?_cons_zero, List.getElem?_cons_succ, Option.some.injEq] at ho
      subst ho
      have e61 := hF.pure 6 61 (.slice (some ⟨bk, off, none⟩) n c) rfl rfl rfl rfl rfl
      have e62 := hF.pure 7 62 (.int .i64 ib) rfl rfl rfl rfl rfl
      have hix : ib < n := hib
      have hix2 : ¬ n ≤ ib := by omega
      simp only [Act.eval] at e61 e62
      clear hF hlim hJ
      go_simp
      exact hk
    | 9, ho =>
      simp only [List.getElem?_toArray, List.getElem?_cons_zero, List.getElem?_cons_succ, Option.some.injEq] at ho
      subst ho
      have e63 := hF.pure 8 63 (.pointer (some ⟨bk, off + ib * 7, none⟩)) rfl rfl rfl rfl rfl
      have h0 := hJ.ext.cell d0
      have h1 := hJ.ext.cell d1
      have h2 := hJ.ext.cell d2
      have h3 := hJ.ext.cell d3
      have h4 := hJ.ext.cell d4
      have h5 := hJ.ext.cell d5
      have h6 := hJ.ext.cell d6
      clear c0 c1 c2 c3 c4 c5 c6 d0 d1 d2 d3 d4 d5 d6
      simp only [Act.eval] at e63
      clear hF hlim hJ
      go_simp
      exact hk
    | 10, ho => simp at ha
    | 11, ho => simp at ha
    | 12, ho => simp at hc
    | 13, ho => simp at hc
    | i + 14, ho => simp at ho
  · clear hcl
    intro p c' o hp ho a w' us gs K' hl hJ hF hk
    match p, hp with
    | 0, hp =>
      obtain rfl : 12 = c' := by simpa using hp
      simp only [List.getElem?_toArray, List.getElem?_cons_zero, List.getElem?_cons_succ, Option.some.injEq] at ho
      subst ho
      obtain rfl : us = [] := List.eq_nil_of_length_eq_zero hl
      obtain ⟨g13, hg13, e13⟩ := hF.ptr 10 13 rfl rfl rfl rfl
      have e59 := hF.pure 4 59 (.agg #[.int .i64 num, .string rl, .int .i64 src, .int .i64 inn, .int .i64 out, .int .i64 nn, .int .i64 dd]) rfl rfl rfl rfl rfl
      obtain ⟨_, cs, hcs, hB, _⟩ := hJ.va g13 hg13
      exact wp_storeB 67 (.tmp 13) (.tmp 59) rfl g13 67 _ _ e13 e59 (by exact size_cut) (by simp [Value.oneCell']) hB hcs (hk undef _ (twoJ_a hJ hg13 rfl hB))
    | 1, hp =>
      obtain rfl : 13 = c' := by simpa using hp
      simp only [List.getElem?_toArray, List.getElem?_cons_zero, List.getElem?_cons_succ, Option.some.injEq] at ho
      subst ho
      obtain ⟨u0, rfl⟩ := list_1 hl
      obtain ⟨g14, hg14, e14⟩ := hF.ptr 11 14 rfl rfl rfl rfl
      have e64 := hF.pure 9 64 (.agg #[.int .i64 num', .string rl', .int .i64 src', .int .i64 inn', .int .i64 out', .int .i64 nn', .int .i64 dd']) rfl rfl rfl rfl rfl
      obtain ⟨_, cs, hcs, hB, _⟩ := hJ.vb g14 hg14
      exact wp_storeB 67 (.tmp 14) (.tmp 64) rfl g14 67 _ _ e14 e64 (by exact size_cut) (by simp [Value.oneCell']) hB hcs (hk undef _ (twoJ_b hJ hg14 rfl hB))
    | p + 2, hp => simp at hp
  intro us gs w4 hl hgs hJ
  rename_i hK
  obtain ⟨u0, u1, rfl⟩ := list_2 hl
  obtain ⟨ga, gb, hga, hgb, hga1, hgb1, hgne, hBa, hBb⟩ := hJ.end_ (fun j hj => hgs j (by rcases hj with rfl | rfl <;> rfl))
  refine hK _ _ ?_
  clear hK
  generalize hL : frameA _ _ _ _ _ _ = L
  obtain rfl : L = [(55, .pointer (some ⟨w.heap.size, 3, none⟩)), (56, .slice (some ⟨bk, off, none⟩) n c), (57, .int .i64 ia), (58, .pointer (some ⟨bk, off + ia * 7, none⟩)), (59, .agg #[.int .i64 num, .string rl, .int .i64 src, .int .i64 inn, .int .i64 out, .int .i64 nn, .int .i64 dd]), (60, .pointer (some ⟨w.heap.size, 3, none⟩)), (61, .slice (some ⟨bk, off, none⟩) n c), (62, .int .i64 ib), (63, .pointer (some ⟨bk, off + ib * 7, none⟩)), (64, .agg #[.int .i64 num', .string rl', .int .i64 src', .int .i64 inn', .int .i64 out', .int .i64 nn', .int .i64 dd']), (13, .pointer ((gs 10).map fun g => ⟨g, 0, none⟩)), (14, .pointer ((gs 11).map fun g => ⟨g, 0, none⟩))] := hL.symm.trans (by kernel_rfl)
  rw [hga, hgb]
  clear hL hl hgs
  simp only [Act.put, Option.map_some, List.foldl_cons, List.foldl_nil, List.setIfInBounds_toArray, List.set_cons_zero, List.set_cons_succ]
  have HX4 := Lib.hid (HX3.out.trans hJ.ext)
  have HBl4 := Lib.hid (HBl3.out.ext hJ.ext)
  have HBr4 := Lib.hid (HBr3.out.ext hJ.ext)
  have HBa := Lib.hid hBa
  have HBb := Lib.hid hBb
  have hgl : w.heap.size + 1 < ga := by have := HBr3.out.lt; omega
  have hgl' : w.heap.size + 1 < gb := by have := HBr3.out.lt; omega
  clear hJ hBa hBb hga hgb hcl HBl3 HBr3 HX3 hga1 hgb1 c0 c1 c2 c3 c4 c5 c6 d0 d1 d2 d3 d4 d5 d6
  have hca4 := fun o => HBa.out.cell o
  have hcb4 := fun o => HBb.out.cell o
  by_cases hlen : out - inn = out' - inn'
  case neg =>
    have hlen' : (out - inn != out' - inn') = true := by simpa using hlen
    have HLe := Lib.hid hlen
    go_wp2_with (refine wpList_storeB rfl 32 (.tmp 6) (.tmp 80) rfl (w.heap.size + 1) 32 _ _ (by exact rfl) (by exact rfl) (by exact HBr4.out) (by exact rfl) (by exact size_list) (by simp [Value.oneCell']) ?_)
    refine bodyPost_ret (v := .tuple #[.agg #[.string ⟨#[]⟩, .int .u8 0, .bool false, .slice none 0 0], .int .i64 (1)]) ?_ rfl ⟨by rw [P5.out HZ.out HAB.out HNo.out HOne.out HLe.out], ?_⟩
    · exact results_B_tmp (P := Tryd.prog) Tryd.results14 (g := w.heap.size + 1) rfl (by exact HBr4.out.put _) Tryd.underlying32 rfl size_list
    · exact HX4.out.put (by omega) _ _
  exact absurd (P6.out HZ.out HAB.out HNo.out HOne.out hlen) HPre.out
end Go.Proofs.YtffianmhojiomaaDoor
