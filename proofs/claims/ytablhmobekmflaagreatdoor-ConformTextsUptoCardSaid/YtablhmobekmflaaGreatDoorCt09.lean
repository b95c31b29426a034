/- Texts laid together. -/
import Derived.Test.YtablhmobekmflaaGreatDoorCt08
import Derived.Test.YtablhmobekmflaaGreatDoorCt02
import Derived.Lib.SlicesCompact
import Derived.Lib.RowBridge
import Derived.Sort.KeysCollected
import Derived.Test.YtablhmobekmflaaGreatDoorShelf
import Derived.Sort.OwnSorted
import Derived.Sort.EveryDepth
import Derived.Lib.OwnBridge
import Derived.Test.YtablhmobekmflaaGreatDoorCt04
import Derived.Test.YtablhmobekmflaaGreatDoorCt01
import Derived.Lib.ValidLaws
import Derived.Lib.TrimUEq
import Derived.Sort.Walk0
import Derived.Test.YtablhmobekmflaaGreatDoorCt05
set_option linter.unusedVariables false
set_option linter.unusedSimpArgs false
namespace Go.Proofs.YtablhmobekmflaaGreatDoor
section
open Go.RowKit
structure Cut where
 num : Int
 reel : ByteArray
 src : Int
 inn : Int
 out : Int
 n : Int
 d : Int
 deriving DecidableEq
def Cut.vals (c : Cut) : List Value := [.int .i64 c.num, .string c.reel, .int .i64 c.src, .int .i64 c.inn, .int .i64 c.out, .int .i64 c.n, .int .i64 c.d]
def Cut.cells (c : Cut) : Array Value := #[.int .i64 c.num, .string c.reel, .int .i64 c.src, .int .i64 c.inn, .int .i64 c.out, .int .i64 c.n, .int .i64 c.d]
def I64 (x : Int) : Prop := -9223372036854775808 ≤ x ∧ x ≤ 9223372036854775807
def Cut.Fits (c : Cut) : Prop := I64 c.num ∧ I64 c.src ∧ I64 c.inn ∧ I64 c.out ∧ I64 c.n ∧ I64 c.d ∧ c.reel.size ≤ 140737488351232
def speedB (c : Cut) : Bool := ratioB c.n c.d && decide (0 ≤ c.n ∧ c.n ≤ 8 ∧ c.d ≤ 8)
def srcAt (c : Cut) (t : Int) : Int := c.src + (t - c.inn) * c.n / c.d
def Cut.Sane (c : Cut) : Prop := 0 ≤ c.inn ∧ c.inn < c.out ∧ c.out ≤ 5184000 ∧ 0 ≤ c.n ∧ c.n ≤ 8 ∧ 1 ≤ c.d ∧ c.d ≤ 8 ∧ 0 ≤ c.src ∧ c.src ≤ 5184000
def cutErr (c : Cut) (day : Int) : Int :=
 if nameB c.reel = false then 5 else if c.out ≤ c.inn then 1 else if c.inn < 0 ∨ day ≤ c.out then 2 else if speedB c = false then 3 else if c.src < 0 ∨ day ≤ c.src ∨ day ≤ srcAt c (c.out - 1) then 2 else 0
theorem speedB_true {c : Cut} (h : speedB c = true) : 0 ≤ c.n ∧ c.n ≤ 8 ∧ 1 ≤ c.d ∧ c.d ≤ 8 := by
 unfold speedB ratioB at h
 simp only [Bool.and_eq_true, decide_eq_true_eq] at h
 have := inPartsB_true h.1.1
 omega
theorem quoI_floor (n d : Int) : quoI n d 1 = n / d := by
 have h : awayB (n % d) d 1 = false := by unfold awayB; split <;> rfl
 unfold quoI
 rw [h]
 rfl
theorem mul_bd8 {a n : Int} (h0 : 0 ≤ a) (h1 : a ≤ 5184000) (h2 : 0 ≤ n) (h3 : n ≤ 8) : 0 ≤ a * n ∧ a * n ≤ 41472000 := by
 refine ⟨Int.mul_nonneg h0 h2, ?_⟩
 have h4 : a * n ≤ 5184000 * 8 := Int.mul_le_mul h1 h3 h2 (by omega)
 omega
theorem div_bd {x d : Int} (h0 : 0 ≤ x) (h1 : x ≤ 41472000) (h2 : 1 ≤ d) : 0 ≤ x / d ∧ x / d ≤ 41472000 :=
 ⟨Int.ediv_nonneg h0 (by omega), Int.le_trans (Int.ediv_le_self _ h0) h1⟩
set_option maxRecDepth 100000 in
set_option maxHeartbeats 1000000 in
theorem source_any (c : Cut) (t : Int) (w : World) (hc : c.Sane) (h1 : c.inn ≤ t) (h2 : t < c.out) :
 Calls Tryz.prog 45 #[.agg c.cells, .int .i64 t] w fun e w' => e = .returned (.int .i64 (srcAt c t)) ∧ Ext w w' := by
 obtain ⟨num, rl, src, inn, out, n, d⟩ := c
 obtain ⟨a1, a2, a3, a4, a5, a6, a7, a8, a9⟩ := hc
 dsimp only at *
 have hm := mul_bd8 (a := t - inn) (n := n) (by omega) (by omega) a4 a5
 have hq := div_bd hm.1 hm.2 a6
 have HF : Hid (srcAt ⟨num, rl, src, inn, out, n, d⟩ t = src + (t - inn) * n / d) := rfl
 have HX := Lib.hid ((Ext.refl w).alloc (.cells #[.int .i64 num, .string rl, .int .i64 src, .int .i64 inn, .int .i64 out, .int .i64 n, .int .i64 d] 91))
 unfold Cut.cells
 dsimp only
 go_enter Tryz.func45, Tryz.ntmps45
 go_wp2_with fail
 refine (Quotient_any ((t - inn) * n) d 1 _ hm.1 (by omega) a6 (by omega) (by omega) (by omega)).mono ?_
 rintro e w1 ⟨rfl, hx⟩
 rw [quoI_floor]
 have hB := Blk.ext (Blk.new w 91 #[.int .i64 num, .string rl, .int .i64 src, .int .i64 inn, .int .i64 out, .int .i64 n, .int .i64 d]) hx
 have hcell := fun o => hB.cell o
 have HB := Lib.hid hB
 clear hB
 go_wp2_with fail
 go_ret
 exact ⟨ret_int HF.out.symm, HX.out.trans hx⟩
set_option maxRecDepth 100000 in
set_option maxHeartbeats 1000000 in
theorem last_any (c : Cut) (w : World) (hc : c.Sane) :
 Calls Tryz.prog 151 #[.agg c.cells] w fun e w' => e = .returned (.int .i64 (srcAt c (c.out - 1))) ∧ Ext w w' := by
 obtain ⟨num, rl, src, inn, out, n, d⟩ := c
 obtain ⟨a1, a2, a3, a4, a5, a6, a7, a8, a9⟩ := hc
 dsimp only at *
 have hm := mul_bd8 (a := out - 1 - inn) (n := n) (by omega) (by omega) a4 a5
 have hq := div_bd hm.1 hm.2 a6
 have HF : Hid (srcAt ⟨num, rl, src, inn, out, n, d⟩ (out - 1) = src + (out - 1 - inn) * n / d) := rfl
 have HX := Lib.hid ((Ext.refl w).alloc (.cells #[.int .i64 num, .string rl, .int .i64 src, .int .i64 inn, .int .i64 out, .int .i64 n, .int .i64 d] 91))
 unfold Cut.cells
 dsimp only
 go_enter Tryz.func151, Tryz.ntmps151
 go_wp2_with fail
 refine (Quotient_any ((out - 1 - inn) * n) d 1 _ hm.1 (by omega) a6 (by omega) (by omega) (by omega)).mono ?_
 rintro e w1 ⟨rfl, hx⟩
 rw [quoI_floor]
 have hB := Blk.ext (Blk.new w 91 #[.int .i64 num, .string rl, .int .i64 src, .int .i64 inn, .int .i64 out, .int .i64 n, .int .i64 d]) hx
 have hcell := fun o => hB.cell o
 have HB := Lib.hid hB
 clear hB
 go_wp2_with fail
 go_ret
 exact ⟨ret_int HF.out.symm, HX.out.trans hx⟩
end
section
open Go.RowKit
theorem cutErr_name {c : Cut} {day : Int} (h : nameB c.reel = false) : cutErr c day = 5 := by unfold cutErr; rw [if_pos h]
theorem cutErr_span {c : Cut} {day : Int} (h : nameB c.reel = true) (h1 : c.out ≤ c.inn) : cutErr c day = 1 := by unfold cutErr; rw [if_neg (by simp [h]), if_pos h1]
theorem cutErr_day {c : Cut} {day : Int} (h : nameB c.reel = true) (h1 : ¬ c.out ≤ c.inn) (h2 : c.inn < 0 ∨ day ≤ c.out) : cutErr c day = 2 := by unfold cutErr; rw [if_neg (by simp [h]), if_neg h1, if_pos h2]
theorem cutErr_speed {c : Cut} {day : Int} (h : nameB c.reel = true) (h1 : ¬ c.out ≤ c.inn) (h2 : ¬ (c.inn < 0 ∨ day ≤ c.out)) (h3 : speedB c = false) : cutErr c day = 3 := by unfold cutErr; rw [if_neg (by simp [h]), if_neg h1, if_neg h2, if_pos h3]
theorem cutErr_src {c : Cut} {day : Int} (h : nameB c.reel = true) (h1 : ¬ c.out ≤ c.inn) (h2 : ¬ (c.inn < 0 ∨ day ≤ c.out)) (h3 : speedB c = true) (h4 : c.src < 0 ∨ day ≤ c.src ∨ day ≤ srcAt c (c.out - 1)) : cutErr c day = 2 := by unfold cutErr; rw [if_neg (by simp [h]), if_neg h1, if_neg h2, if_neg (by simp [h3]), if_pos h4]
theorem cutErr_ok {c : Cut} {day : Int} (h : nameB c.reel = true) (h1 : ¬ c.out ≤ c.inn) (h2 : ¬ (c.inn < 0 ∨ day ≤ c.out)) (h3 : speedB c = true) (h4 : ¬ (c.src < 0 ∨ day ≤ c.src ∨ day ≤ srcAt c (c.out - 1))) : cutErr c day = 0 := by unfold cutErr; rw [if_neg (by simp [h]), if_neg h1, if_neg h2, if_neg (by simp [h3]), if_neg h4]
theorem speedB_bad {c : Cut} (h : ratioB c.n c.d = true) (h2 : c.n < 0 ∨ 8 < c.n ∨ 8 < c.d) : speedB c = false := by unfold speedB; rw [h, decide_eq_false (by omega)]; rfl
theorem speedB_ratio {c : Cut} (h : ratioB c.n c.d = false) : speedB c = false := by unfold speedB; rw [h]; rfl
theorem speedB_ok {c : Cut} (h : ratioB c.n c.d = true) (h1 : 0 ≤ c.n) (h2 : c.n ≤ 8) (h3 : c.d ≤ 8) : speedB c = true := by unfold speedB; rw [h, decide_eq_true ⟨h1, h2, h3⟩]; rfl
theorem size_cut : (Tryz.prog.info? 91).map (·.size) = some 7 := by kernel_rfl
set_option maxRecDepth 100000 in
set_option maxHeartbeats 4000000 in
theorem checkCut_any (c : Cut) (day : Int) (w : World) (hf : c.Fits) (hd9 : day ≤ 5184000) :
 Calls Tryz.prog 93 #[.agg c.cells, .int .i64 day] w fun e w' => e = .returned (.int .i64 (cutErr c day)) ∧ Ext w w' := by
 obtain ⟨num, rl, src, inn, out, n, d⟩ := c
 obtain ⟨f1, f2, f3, f4, f5, f6, f7⟩ := hf
 unfold I64 at *
 dsimp only at *
 have HX := Lib.hid ((Ext.refl w).alloc (.cells #[.int .i64 num, .string rl, .int .i64 src, .int .i64 inn, .int .i64 out, .int .i64 n, .int .i64 d] 91))
 have HB := Lib.hid (Blk.new w 91 #[.int .i64 num, .string rl, .int .i64 src, .int .i64 inn, .int .i64 out, .int .i64 n, .int .i64 d])
 have HNm := Lib.hid (@cutErr_name ⟨num, rl, src, inn, out, n, d⟩ day)
 have HSp := Lib.hid (@cutErr_span ⟨num, rl, src, inn, out, n, d⟩ day)
 have HDy := Lib.hid (@cutErr_day ⟨num, rl, src, inn, out, n, d⟩ day)
 have HSd := Lib.hid (@cutErr_speed ⟨num, rl, src, inn, out, n, d⟩ day)
 have HSr := Lib.hid (@cutErr_src ⟨num, rl, src, inn, out, n, d⟩ day)
 have HOk := Lib.hid (@cutErr_ok ⟨num, rl, src, inn, out, n, d⟩ day)
 have HBd := Lib.hid (@speedB_bad ⟨num, rl, src, inn, out, n, d⟩)
 have HRt := Lib.hid (@speedB_ratio ⟨num, rl, src, inn, out, n, d⟩)
 have HSo := Lib.hid (@speedB_ok ⟨num, rl, src, inn, out, n, d⟩)
 dsimp only at HNm HSp HDy HSd HSr HOk HBd HRt HSo
 unfold Cut.cells
 dsimp only
 go_enter Tryz.func93, Tryz.ntmps93
 go_wp2_with fail
 refine (Name_any rl _ (by omega)).mono ?_
 rintro e w1 ⟨rfl, rfl⟩
 have HB1 := HB
 cases hnm : nameB rl
 · have HN := Lib.hid hnm
   clear hnm
   go_wp2_with fail
   go_ret
   exact ⟨ret_int (by rw [HNm.out HN.out]), HX.out⟩
 have HN := Lib.hid hnm
 clear hnm
 by_cases h1 : out ≤ inn
 · skip
   go_wp2_with fail
   go_ret
   exact ⟨ret_int (by rw [HSp.out HN.out h1]), HX.out⟩
 by_cases h2 : inn < 0
 · skip
   go_wp2_with fail
   go_ret
   exact ⟨ret_int (by rw [HDy.out HN.out h1 (.inl h2)]), HX.out⟩
 by_cases h3 : day ≤ out
 · skip
   go_wp2_with fail
   go_ret
   exact ⟨ret_int (by rw [HDy.out HN.out h1 (.inr h3)]), HX.out⟩
 have HD2 : Hid (¬ (inn < 0 ∨ day ≤ out)) := by show ¬ _; omega
 have h1n : ¬ out ≤ inn := h1
 have HO1 := Lib.hid h1n
 go_wp2_with fail
 refine (RatValid_any n d _).mono ?_
 rintro e w2 ⟨rfl, hx2⟩
 have HX2 := Lib.hid (HX.out.trans hx2)
 have HB2 := Lib.hid (HB1.out.ext hx2)
 have hcell := fun o => HB2.out.cell o
 cases hrt : ratioB n d
 · have HR := Lib.hid hrt
   clear hrt
   go_wp2_with fail
   go_ret
   exact ⟨ret_int (by rw [HSd.out HN.out HO1.out HD2.out (HRt.out HR.out)]), HX2.out⟩
 have HR := Lib.hid hrt
 clear hrt
 by_cases h4 : n < 0
 · skip
   go_wp2_with fail
   go_ret
   exact ⟨ret_int (by rw [HSd.out HN.out HO1.out HD2.out (HBd.out HR.out (.inl h4))]), HX2.out⟩
 by_cases h5 : 8 < n
 · skip
   go_wp2_with fail
   go_ret
   exact ⟨ret_int (by rw [HSd.out HN.out HO1.out HD2.out (HBd.out HR.out (.inr (.inl h5)))]), HX2.out⟩
 by_cases h6 : 8 < d
 · skip
   go_wp2_with fail
   go_ret
   exact ⟨ret_int (by rw [HSd.out HN.out HO1.out HD2.out (HBd.out HR.out (.inr (.inr h6)))]), HX2.out⟩
 have HSO := Lib.hid (HSo.out HR.out (by omega) (by omega) (by omega))
 have HTr := speedB_true HSO.out
 dsimp only at HTr
 obtain ⟨t1, t2, t3, t4⟩ := HTr
 by_cases h7 : src < 0
 · skip
   go_wp2_with fail
   go_ret
   exact ⟨ret_int (by rw [HSr.out HN.out HO1.out HD2.out HSO.out (.inl h7)]), HX2.out⟩
 by_cases h8 : day ≤ src
 · skip
   go_wp2_with fail
   go_ret
   exact ⟨ret_int (by rw [HSr.out HN.out HO1.out HD2.out HSO.out (.inr (.inl h8))]), HX2.out⟩
 go_wp2_with (refine wpList_loadB rfl 91 (.tmp 2) rfl w.heap.size 91 _ _ (by exact rfl) (by exact HB2.out) Tryz.underlying91 rfl (by exact size_cut) ?_)
 refine (last_any ⟨num, rl, src, inn, out, n, d⟩ _ (by refine ⟨?_, ?_, ?_, ?_, ?_, ?_, ?_, ?_, ?_⟩ <;> dsimp only <;> omega)).mono ?_
 rintro e w3 ⟨rfl, hx3⟩
 by_cases h9 : day ≤ srcAt ⟨num, rl, src, inn, out, n, d⟩ (out - 1)
 · skip
   go_wp2_with fail
   go_ret
   exact ⟨ret_int (by rw [HSr.out HN.out HO1.out HD2.out HSO.out (.inr (.inr h9))]), HX2.out.trans hx3⟩
 have HE : Hid (¬ (src < 0 ∨ day ≤ src ∨ day ≤ srcAt ⟨num, rl, src, inn, out, n, d⟩ (out - 1))) := by show ¬ _; omega
 go_wp2_with fail
 go_ret
 exact ⟨ret_int (by rw [HOk.out HN.out HO1.out HD2.out HSO.out HE.out]), HX2.out.trans hx3⟩
def singleErr (c : Cut) (last day : Int) : Int := if c.num < 1 ∨ 999 < c.num then 2 else if c.num ≤ last then 8 else cutErr c day
end
section
abbrev Bs := List UInt8
def srt (ss : List Bs) : List Bs := ss.mergeSort fun x y => decide (x ≤ y)
def cnt (ss : List Bs) : Nat := (Lib.compact (srt ss)).length
theorem Bs.lt_trans {a b c : Bs} (h1 : a < b) (h2 : b < c) : a < c := List.lt_trans h1 h2
theorem Bs.lt_irrefl (a : Bs) : ¬ a < a := List.lt_irrefl a
theorem Bs.le_of_lt {a b : Bs} (h : a < b) : a ≤ b := List.le_of_lt h
theorem Bs.lt_of_le_of_ne {a b : Bs} (h : a ≤ b) (hne : a ≠ b) : a < b := by
 rcases Classical.em (a < b) with h1 | h1
 · exact h1
 · exact absurd (List.le_antisymm h (List.not_lt.1 h1)) hne
theorem Bs.lt_of_le_of_lt {a b c : Bs} (h : a ≤ b) (h2 : b < c) : a < c := by
 rcases Classical.em (a = b) with h1 | h1
 · rw [h1]; exact h2
 · exact Bs.lt_trans (Bs.lt_of_le_of_ne h h1) h2
theorem Bs.le_refl (a : Bs) : a ≤ a := List.le_refl a
theorem Bs.le_trans {a b c : Bs} (h : a ≤ b) (h2 : b ≤ c) : a ≤ c := List.le_trans h h2
theorem srt_sorted (ss : List Bs) : (srt ss).Pairwise (· ≤ ·) := by
 have := List.pairwise_mergeSort (le := fun x y : Bs => decide (x ≤ y)) (fun a b c h1 h2 => by simp only [decide_eq_true_eq] at *; exact Bs.le_trans h1 h2) (fun a b => by simp only [Bool.or_eq_true, decide_eq_true_eq]; exact List.le_total a b) ss
 exact this.imp (fun h => by simpa using h)
theorem mem_srt (ss : List Bs) (x : Bs) : x ∈ srt ss ↔ x ∈ ss := List.mem_mergeSort
theorem len_srt (ss : List Bs) : (srt ss).length = ss.length := List.length_mergeSort ss
theorem compact_step (zs : List Bs) (hs : zs.Pairwise (· ≤ ·)) : ∀ m, m ≤ zs.length → (Lib.compactUpTo zs.toArray m).Pairwise (· < ·) ∧ ∀ x, x ∈ Lib.compactUpTo zs.toArray m ↔ ∃ j, j < m ∧ zs[j]? = some x
 | 0, _ => ⟨by simp [Lib.compactUpTo], fun x => by simp [Lib.compactUpTo]⟩
 | m + 1, hm => by
  obtain ⟨h1, h2⟩ := compact_step zs hs m (by omega)
  have hlt : m < zs.length := by omega
  have hget : zs.toArray[m]! = zs[m] := by simp [hlt]
  rw [Lib.compactUpTo_succ]
  by_cases hk : Lib.keeps zs.toArray m = true
  · rw [if_pos hk, hget]
    refine ⟨?_, fun x => ?_⟩
    · rw [List.pairwise_append]
      refine ⟨h1, by simp, fun a ha b hb => ?_⟩
      simp only [List.mem_singleton] at hb
      subst hb
      obtain ⟨j, hj, hja⟩ := (h2 a).1 ha
      have hm0 : m ≠ 0 := by omega
      have hne : zs[m] ≠ zs[m - 1] := by
       have := hk
       simp [Lib.keeps, hm0, hlt, show m - 1 < zs.length by omega] at this
       exact this
      have hjl : j < zs.length := by omega
      have hja' : zs[j] = a := by rw [List.getElem?_eq_getElem hjl] at hja; exact Option.some.inj hja
      have hpw := List.pairwise_iff_getElem.1 hs
      have h3 : a ≤ zs[m - 1] := by
       rw [← hja']
       rcases Nat.lt_or_ge j (m - 1) with h | h
       · exact hpw j (m - 1) hjl (by omega) h
       · have : j = m - 1 := by omega
         subst this; exact Bs.le_refl _
      exact Bs.lt_of_le_of_lt h3 (Bs.lt_of_le_of_ne (hpw (m - 1) m (by omega) hlt (by omega)) (fun e => hne e.symm))
    · rw [List.mem_append, h2, List.mem_singleton]
      constructor
      · rintro (⟨j, hj, hx⟩ | rfl)
        · exact ⟨j, by omega, hx⟩
        · exact ⟨m, by omega, List.getElem?_eq_getElem hlt⟩
      · rintro ⟨j, hj, hx⟩
        by_cases hjm : j = m
        · subst hjm
          right
          rw [List.getElem?_eq_getElem hlt] at hx
          exact (Option.some.inj hx).symm
        · exact .inl ⟨j, by omega, hx⟩
  · rw [if_neg hk, List.append_nil]
    refine ⟨h1, fun x => ?_⟩
    rw [h2]
    constructor
    · rintro ⟨j, hj, hx⟩
      exact ⟨j, by omega, hx⟩
    · rintro ⟨j, hj, hx⟩
      by_cases hjm : j = m
      · subst hjm
        have hm0 : j ≠ 0 := by
         rintro rfl
         exact hk (by simp [Lib.keeps])
        have he : zs[j] = zs[j - 1] := by
         have := hk
         simp [Lib.keeps, hm0, hlt, show j - 1 < zs.length by omega] at this
         exact this
        refine ⟨j - 1, by omega, ?_⟩
        rw [List.getElem?_eq_getElem (by omega), ← he]
        rw [List.getElem?_eq_getElem hlt] at hx
        exact hx
      · exact ⟨j, by omega, hx⟩
theorem compact_mem (zs : List Bs) (hs : zs.Pairwise (· ≤ ·)) : (Lib.compact zs).Pairwise (· < ·) ∧ ∀ x, x ∈ Lib.compact zs ↔ x ∈ zs := by
 obtain ⟨h1, h2⟩ := compact_step zs hs zs.length (Nat.le_refl _)
 refine ⟨h1, fun x => ?_⟩
 unfold Lib.compact
 rw [h2, List.mem_iff_getElem?]
 constructor
 · rintro ⟨j, _, h⟩; exact ⟨j, h⟩
 · rintro ⟨j, h⟩; exact ⟨j, (List.getElem?_eq_some_iff.1 h).1, h⟩
theorem nodup_of_lt {l : List Bs} (h : l.Pairwise (· < ·)) : l.Nodup := by
 unfold List.Nodup
 exact h.imp (fun {a b} hab e => by subst e; exact Bs.lt_irrefl _ hab)
theorem nodup_len {a b : List Bs} (ha : a.Nodup) (hb : b.Nodup) (h : ∀ x, x ∈ a ↔ x ∈ b) : a.length = b.length := by
 apply List.Perm.length_eq
 rw [List.perm_iff_count]
 intro x
 rw [ha.count, hb.count]
 simp only [h x]
theorem cnt_eq {ss l : List Bs} (hl : l.Pairwise (· < ·)) (h : ∀ x, x ∈ l ↔ x ∈ ss) : l.length = cnt ss := by
 obtain ⟨h1, h2⟩ := compact_mem (srt ss) (srt_sorted ss)
 exact nodup_len (nodup_of_lt hl) (nodup_of_lt h1) (fun x => by rw [h, h2, mem_srt])
theorem cnt_perm {a b : List Bs} (h : ∀ x, x ∈ a ↔ x ∈ b) : cnt a = cnt b := by
 obtain ⟨h1, h2⟩ := compact_mem (srt a) (srt_sorted a)
 exact cnt_eq h1 (fun x => by rw [h2, mem_srt, h])
theorem cnt_nil : cnt [] = 0 := by unfold cnt srt; simp [Lib.compact, Lib.compactUpTo]
end
section
open Go.RowKit Go.Shelf Go.Sort
theorem sort_c (blk off cap : Nat) (zs : List (List UInt8)) (w : World) (hH : Holds encStr w blk off zs.toArray) (hblk : blk < w.heap.size) (hsz : zs.length < 4611686018427387904) :
 Calls Tryz.prog 152 #[.slice (some ⟨blk, off, none⟩) zs.length cap] w fun e w' =>
  e = .returned (.tuple #[]) ∧ ∃ n os, w' = grow (putRow encStr (Sort.ahead w n) blk off (zs.mergeSort fun x y => decide (x ≤ y)).toArray) os :=
 calls_of_every_depth fun D => AnyS.slices_Sort_string_alone Tryz.laysSort D blk off cap zs w hH hblk hsz
theorem sort_none (p : Option Addr) (cap : Nat) (w : World) : Calls Tryz.prog 152 #[.slice p 0 cap] w fun e w' => e = .returned (.tuple #[]) ∧ w' = w :=
 calls_of_every_depth fun D => AnyS.slices_Sort_string_none_alone Tryz.laysSort D p cap w
theorem compact_c (blk off cap : Nat) (zs : List (List UInt8)) (w : World) (hH : Holds encStr w blk off zs.toArray) (hsz : zs.length ≤ 9223372036854775807) (hcap : zs.length ≤ cap) :
 Calls Tryz.prog 153 #[.slice (some ⟨blk, off, none⟩) zs.length cap] w fun e w' => e = .returned (.slice (some ⟨blk, off, none⟩) (Lib.compact zs).length cap) ∧ ∃ q, w' = putRow encStr (Sort.ahead w q) blk off (Lib.compact zs ++ List.replicate (zs.length - (Lib.compact zs).length) []).toArray :=
 Any.slices_Compact_string Tryz.laysCompact blk off cap zs w hH hsz hcap
theorem compact_none (a : Option Addr) (cap : Nat) (w : World) : Calls Tryz.prog 153 #[.slice a 0 cap] w fun e w' => e = .returned (.slice a 0 cap) ∧ w' = w :=
 Any.slices_Compact_string_empty Tryz.laysCompact a cap w
def CutsAt (w : World) (A : Option Addr) (n : Nat) (l : List Cut) : Prop := Sl w 7 (Cells Cut.vals) A n l
theorem CutsAt.ext {w w1 : World} {A : Option Addr} {n : Nat} {l : List Cut} (h : CutsAt w A n l) (k : Ext w w1) : CutsAt w1 A n l := Sl.ext (Cells.stays _) h k
theorem CutsAt.at7 {w : World} {A : Option Addr} {n : Nat} {l : List Cut} (h : CutsAt w A n l) {i : Nat} (hi : i < n) : ∃ b off c, A = some ⟨b, off, none⟩ ∧ l[i]? = some c ∧
 (w.cell? ⟨b, off + i * 7, none⟩ = some (.int .i64 c.num) ∧ w.cell? ⟨b, off + i * 7 + 1, none⟩ = some (.string c.reel) ∧ w.cell? ⟨b, off + i * 7 + 2, none⟩ = some (.int .i64 c.src) ∧ w.cell? ⟨b, off + i * 7 + 3, none⟩ = some (.int .i64 c.inn) ∧
  w.cell? ⟨b, off + i * 7 + 4, none⟩ = some (.int .i64 c.out) ∧ w.cell? ⟨b, off + i * 7 + 5, none⟩ = some (.int .i64 c.n) ∧ w.cell? ⟨b, off + i * 7 + 6, none⟩ = some (.int .i64 c.d)) := by
 obtain ⟨b, off, c, hA, hc, hC⟩ := h.at_ hi
 exact ⟨b, off, c, hA, hc, by simpa using hC 0 _ rfl, hC 1 _ rfl, hC 2 _ rfl, hC 3 _ rfl, hC 4 _ rfl, hC 5 _ rfl, hC 6 _ rfl⟩
structure Edl where
 title : ByteArray
 rate : Int
 drop : Bool
 cuts : List Cut
 deriving DecidableEq
def Edl.cells (e : Edl) (A : Option Addr) (n c : Nat) : Array Value := #[.string e.title, .int .u8 e.rate, .bool e.drop, .slice A n c]
def Edl.names (e : Edl) : List Bs := e.cuts.map fun c => c.reel.data.toList
theorem info_str : (Tryz.prog.info? 9).map (fun i => (i.zero, i.size, i.bytes)) = some (some (.string ⟨#[]⟩), 1, 16) := by kernel_rfl
theorem enc_reel (s : ByteArray) : encStr s.data.toList = .string s := by simp [encStr]
def ReelsPost (e : Edl) (w : World) (en : Ending) (w' : World) : Prop := ∃ A m c, en = .returned (.slice A m c) ∧ m = cnt e.names ∧ Ext w w'
def ReelsRel (w w0 : World) (n : Nat) (l : List Cut) (v i : Value) (wr : World) : Prop :=
 ∃ k : Nat, k ≤ n ∧ i = .int .i64 k ∧ Ext w0 wr ∧ Ext w wr ∧ wr.ownsRow w0.heap.size 9 1 v k ((l.take k).map fun c => Value.string c.reel)
theorem reels_end {w w1 : World} {base g cap n : Nat} {ss : List Bs} (hx : Ext w w1) (hown : w1.ownsRow base 9 1 (.slice (some ⟨g, 0, none⟩) n cap) n (ss.map encStr)) (hg : w.heap.size ≤ g) {nn q : Nat} {os : Array Obj} {d : Array (List UInt8)} :
 Ext w (putRow encStr (Sort.ahead (grow (putRow encStr (Sort.ahead w1 nn) g 0 (ss.mergeSort fun x y => decide (x ≤ y)).toArray) os) q) g 0 d) :=
 Lib.below_putRow (hx.grown (grownBy_sorted _) (fun j hj => by cases hj; exact hg)) hg
set_option maxRecDepth 100000 in
set_option maxHeartbeats 2000000 in
theorem Reels_any (e : Edl) (A : Option Addr) (n c : Nat) (w : World) (hl : CutsAt w A n e.cuts) (hn : n ≤ 1000000) :
 Calls Tryz.prog 94 #[.agg (e.cells A n c)] w (ReelsPost e w) := by
 have HL := Lib.hid hl
 have HLn := Lib.hid hl.len
 clear hl
 unfold Edl.cells
 have HX0 := Lib.hid ((Ext.refl w).alloc (.cells #[.string e.title, .int .u8 e.rate, .bool e.drop, .slice A n c] 28))
 go_enter Tryz.func94, Tryz.ntmps94
 go_wp2_with fail
 go_loopw [3, 9] (fun v i wr => ReelsRel w (w.alloc (.cells #[.string e.title, .int .u8 e.rate, .bool e.drop, .slice A n c] 28)) n e.cuts v i wr) (fun _ i _ => n - (intOf i).toNat)
 case atStart => exact ⟨0, Nat.zero_le _, rfl, Ext.refl _, HX0.out, ⟨rfl, .inl ⟨rfl, rfl⟩⟩⟩
 case round =>
  obtain ⟨k, hk, rfl, hx, hxw, hown⟩ := hrel
  by_cases hlt : k < n
  · obtain ⟨b, off, r, rfl, hr, c0, c1, c2, c3, c4, c5, c6⟩ := (HL.out.ext hxw).at7 hlt
    have HT := Lib.hid (take_snoc' e.cuts k r hr)
    have HO := Lib.hid (hown.alloc (.cells r.cells 91))
    unfold Cut.cells at HO
    have HO0 := Lib.hid hown
    clear hr hown
    have hsz := hx.size
    simp only [World.size_alloc] at hsz
    go_wp2_with (at_builtin; refine wpList_append1 rfl (.tmp 13) (.tmp 16) 130 rfl info_str Tryz.underlying130 rfl (by decide) (HO.out.alloc _) (by exact rfl) (wr.heap.size + 1) _ (by exact rfl) (by exact Blk.new' (by simp)) (by exact rfl) (by simp [Value.oneCell']) (by omega) (by simp [maxLen]; omega) (by simp; omega) ?_; intro v' w3 hown3 hgr)
    refine ⟨⟨k + 1, by omega, by go_num, ((hx.alloc _).alloc _).grown hgr (fun q hq => by have := own_lt HO0.out q hq; simpa using this), ((hxw.alloc _).alloc _).grown hgr (fun q hq => by have := own_lt HO0.out q hq; have := HX0.out.size; omega), ?_⟩, by simp [intOf]; omega⟩
    rw [HT.out, List.map_append]
    exact hown3
  · have hkn : k = n := by omega
    subst hkn
    have HT : Hid (e.cuts.take k = e.cuts) := List.take_of_length_le (by rw [HLn.out]; omega)
    have hown2 : wr.ownsRow (w.alloc (.cells #[.string e.title, .int .u8 e.rate, .bool e.drop, .slice A k c] 28)).heap.size 9 1 u3 k (e.names.map encStr) := by
     have := hown
     rw [HT.out] at this
     have e1 : e.names.map encStr = e.cuts.map fun c => Value.string c.reel := by
      unfold Edl.names
      rw [List.map_map]
      exact List.map_congr_left fun c _ => enc_reel c.reel
     rw [e1]
     exact this
    have HO := Lib.hid hown2
    have HXw := Lib.hid hxw
    have hb0 := HX0.out.size
    have HLs : Hid (e.names.length = k) := by show _ = _; unfold Edl.names; rw [List.length_map, HLn.out]
    clear hown hown2
    rcases Classical.em (u3 = .slice none 0 0) with hv | hv
    · subst hv
      have hk0 : k = 0 := by
       rcases HO.out.2 with ⟨_, h0⟩ | ⟨g, cap, cur, h0, _⟩
       · exact h0
       · cases h0
      subst hk0
      have HN : Hid (e.names = []) := List.eq_nil_of_length_eq_zero HLs.out
      go_wp2_with fail
      refine (sort_none none 0 _).mono ?_
      rintro en w2 ⟨rfl, rfl⟩
      go_wp2_with fail
      refine (compact_none none 0 _).mono ?_
      rintro en w3 ⟨rfl, rfl⟩
      go_wp2_with fail
      go_ret
      exact ⟨none, 0, 0, rfl, by rw [HN.out, cnt_nil], HXw.out⟩
    · obtain ⟨g, cap, rfl, hbg, hgl, hncap, hcm, hlen, hH⟩ := Lib.holds_of_ownsRow HO.out hv
      have hsort := sort_c g 0 cap e.names wr hH hgl (by omega)
      rw [hlen] at hsort
      have HH := Lib.hid hH
      clear hH hv
      go_wp2_with fail
      refine hsort.mono ?_
      rintro en w2 ⟨rfl, nn, os, rfl⟩
      have hl2 : (e.names.mergeSort fun x y => decide (x ≤ y)).length = k := by rw [List.length_mergeSort]; exact hlen
      have hH2 : Holds encStr (grow (putRow encStr (Sort.ahead wr nn) g 0 (e.names.mergeSort fun x y => decide (x ≤ y)).toArray) os) g 0 (e.names.mergeSort fun x y => decide (x ≤ y)).toArray :=
       holds_grow encStr _ os g 0 _ (by simpa [putRow, mapBlock, Sort.ahead] using hgl) (holds_putRow encStr _ g 0 _ _ (holds_ahead encStr wr nn g 0 _ HH.out) (by simp))
      have hcomp := compact_c g 0 cap (e.names.mergeSort fun x y => decide (x ≤ y)) _ hH2 (by omega) (by omega)
      rw [hl2] at hcomp
      clear hH2 hsort
      have HE := fun q d => Lib.hid (reels_end (nn := nn) (q := q) (os := os) (d := d) HXw.out HO.out (by omega))
      generalize grow (putRow encStr (Sort.ahead wr nn) g 0 (e.names.mergeSort fun x y => decide (x ≤ y)).toArray) os = w2 at *
      go_wp2_with fail
      refine hcomp.mono ?_
      rintro en w3 ⟨rfl, q, rfl⟩
      have HE2 := HE q ((Lib.compact (e.names.mergeSort fun x y => decide (x ≤ y)) ++ List.replicate (k - (Lib.compact (e.names.mergeSort fun x y => decide (x ≤ y))).length) []).toArray)
      generalize putRow encStr (Sort.ahead w2 q) g 0 (Lib.compact (e.names.mergeSort fun x y => decide (x ≤ y)) ++ List.replicate (k - (Lib.compact (e.names.mergeSort fun x y => decide (x ≤ y))).length) []).toArray = w3 at *
      go_wp2_with fail
      go_ret
      exact ⟨_, _, _, rfl, rfl, HE2.out⟩
end
section
open Go.RowKit
def cutsErr (day : Int) : Int → Int → List Cut → Int
 | _, _, [] => 0
 | la, ou, c :: r => if singleErr c la day ≠ 0 then singleErr c la day else if c.inn < ou then 14 else cutsErr day c.num c.out r
def edlErr (e : Edl) : Int :=
 if vld e.title = false then 10 else if 400 < e.title.size then 9 else if rateOkB e.rate e.drop = false then 13 else if 64 < e.cuts.length then 9 else
  if cutsErr (dayOf e.rate e.drop) 0 0 e.cuts ≠ 0 then cutsErr (dayOf e.rate e.drop) 0 0 e.cuts else if 16 < cnt e.names then 9 else 0
def laAt (l : List Cut) : Nat → Int | 0 => 0 | k + 1 => ((l[k]?).map (·.num)).getD 0
def ouAt (l : List Cut) : Nat → Int | 0 => 0 | k + 1 => ((l[k]?).map (·.out)).getD 0
theorem cuts_step {l : List Cut} {k : Nat} {r : Cut} {day E : Int} (hr : l[k]? = some r) (hP : E = cutsErr day (laAt l k) (ouAt l k) (l.drop k)) :
 (singleErr r (laAt l k) day ≠ 0 → E = singleErr r (laAt l k) day) ∧ (singleErr r (laAt l k) day = 0 → r.inn < ouAt l k → E = 14) ∧
  (singleErr r (laAt l k) day = 0 → ¬ r.inn < ouAt l k → E = cutsErr day (laAt l (k + 1)) (ouAt l (k + 1)) (l.drop (k + 1))) := by
 obtain ⟨hk, hk2⟩ := List.getElem?_eq_some_iff.1 hr
 rw [List.drop_eq_getElem_cons hk, hk2] at hP
 unfold cutsErr at hP
 refine ⟨fun h => ?_, fun h h2 => ?_, fun h h2 => ?_⟩
 · rw [if_pos h] at hP; exact hP
 · rw [if_neg (by omega), if_pos h2] at hP; exact hP
 · rw [if_neg (by omega), if_neg h2] at hP
   rw [hP]
   simp [laAt, ouAt, hr]
theorem single_num {c : Cut} {la day : Int} (h : c.num < 1 ∨ 999 < c.num) : singleErr c la day = 2 := by unfold singleErr; rw [if_pos h]
theorem single_ord {c : Cut} {la day : Int} (h : ¬ (c.num < 1 ∨ 999 < c.num)) (h2 : c.num ≤ la) : singleErr c la day = 8 := by unfold singleErr; rw [if_neg h, if_pos h2]
theorem single_cut {c : Cut} {la day : Int} (h : ¬ (c.num < 1 ∨ 999 < c.num)) (h2 : ¬ c.num ≤ la) : singleErr c la day = cutErr c day := by unfold singleErr; rw [if_neg h, if_neg h2]
theorem cutErr_inn {c : Cut} {day : Int} (h : cutErr c day = 0) : 0 ≤ c.inn := by
 unfold cutErr at h
 repeat' split at h
 all_goals first | omega | (exact absurd h (by decide)) | skip
theorem edl_char {e : Edl} (h : vld e.title = false) : edlErr e = 10 := by unfold edlErr; rw [if_pos h]
theorem edl_title {e : Edl} (h : vld e.title = true) (h1 : 400 < e.title.size) : edlErr e = 9 := by unfold edlErr; rw [if_neg (by simp [h]), if_pos h1]
theorem edl_rate {e : Edl} (h : vld e.title = true) (h1 : ¬ 400 < e.title.size) (h2 : rateOkB e.rate e.drop = false) : edlErr e = 13 := by unfold edlErr; rw [if_neg (by simp [h]), if_neg h1, if_pos h2]
theorem edl_many {e : Edl} (h : vld e.title = true) (h1 : ¬ 400 < e.title.size) (h2 : rateOkB e.rate e.drop = true) (h3 : 64 < e.cuts.length) : edlErr e = 9 := by unfold edlErr; rw [if_neg (by simp [h]), if_neg h1, if_neg (by simp [h2]), if_pos h3]
theorem edl_cuts {e : Edl} {x : Int} (h : vld e.title = true) (h1 : ¬ 400 < e.title.size) (h2 : rateOkB e.rate e.drop = true) (h3 : ¬ 64 < e.cuts.length) (h4 : cutsErr (dayOf e.rate e.drop) 0 0 e.cuts = x) (h5 : x ≠ 0) : edlErr e = x := by
 unfold edlErr; rw [if_neg (by simp [h]), if_neg h1, if_neg (by simp [h2]), if_neg h3, h4, if_pos h5]
theorem edl_reels {e : Edl} (h : vld e.title = true) (h1 : ¬ 400 < e.title.size) (h2 : rateOkB e.rate e.drop = true) (h3 : ¬ 64 < e.cuts.length) (h4 : cutsErr (dayOf e.rate e.drop) 0 0 e.cuts = 0) (h5 : 16 < cnt e.names) : edlErr e = 9 := by
 unfold edlErr; rw [if_neg (by simp [h]), if_neg h1, if_neg (by simp [h2]), if_neg h3, h4, if_neg (by omega), if_pos h5]
theorem edl_ok {e : Edl} (h : vld e.title = true) (h1 : ¬ 400 < e.title.size) (h2 : rateOkB e.rate e.drop = true) (h3 : ¬ 64 < e.cuts.length) (h4 : cutsErr (dayOf e.rate e.drop) 0 0 e.cuts = 0) (h5 : ¬ 16 < cnt e.names) : edlErr e = 0 := by
 unfold edlErr; rw [if_neg (by simp [h]), if_neg h1, if_neg (by simp [h2]), if_neg h3, h4, if_neg (by omega), if_neg h5]
theorem cutsErr_ok {day : Int} : ∀ {l : List Cut} {la ou : Int}, cutsErr day la ou l = 0 → ∀ c ∈ l, cutErr c day = 0 ∧ 1 ≤ c.num ∧ c.num ≤ 999
 | [], _, _, _, c, hc => by cases hc
 | d :: r, la, ou, h, c, hc => by
  unfold cutsErr at h
  split at h
  · omega
  · rename_i h0
    split at h
    · omega
    · rcases List.mem_cons.1 hc with rfl | hc
      · unfold singleErr at h0
        repeat' split at h0
        all_goals first | omega | exact ⟨by omega, by omega, by omega⟩
      · exact cutsErr_ok h c hc
theorem edlErr_ok {e : Edl} (h : edlErr e = 0) : vld e.title = true ∧ ¬ 400 < e.title.size ∧ rateOkB e.rate e.drop = true ∧ ¬ 64 < e.cuts.length ∧ cutsErr (dayOf e.rate e.drop) 0 0 e.cuts = 0 ∧ ¬ 16 < cnt e.names := by
 unfold edlErr at h
 repeat' split at h
 all_goals first | omega | skip
 rename_i h1 h2 h3 h4 h5 h6
 refine ⟨by simpa using h1, h2, by simpa using h3, h4, by omega, h6⟩
theorem cutErr_sane {c : Cut} {day : Int} (h : cutErr c day = 0) (hd : day ≤ 5184000) : c.Sane := by
 unfold cutErr at h
 repeat' split at h
 all_goals first | omega | skip
 rename_i h1 h2 h3 h4 h5
 have := speedB_true (by simpa using h4)
 refine ⟨?_, ?_, ?_, ?_, ?_, ?_, ?_, ?_, ?_⟩ <;> omega
theorem edl_sane {e : Edl} (h : edlErr e = 0) {c : Cut} (hc : c ∈ e.cuts) : c.Sane :=
 cutErr_sane (cutsErr_ok (edlErr_ok h).2.2.2.2.1 c hc).1 (dayOf_bd _ _)
end
section
open Go.RowKit
def Chk45Rel (w : World) (day : Int) (n : Nat) (l : List Cut) (i : Value) (wr : World) : Prop :=
 ∃ k : Nat, k ≤ n ∧ i = .int .i64 k ∧ Ext w wr ∧ cutsErr day 0 0 l = cutsErr day (laAt l k) (ouAt l k) (l.drop k)
theorem prev_at {w : World} {A : Option Addr} {n : Nat} {l : List Cut} (h : CutsAt w A n l) {k : Nat} (hk : k ≤ n) (h0 : 0 < k) : ∃ b off, A = some ⟨b, off, none⟩ ∧
 w.cell? ⟨b, off + (k - 1) * 7, none⟩ = some (.int .i64 (laAt l k)) ∧ w.cell? ⟨b, off + (k - 1) * 7 + 4, none⟩ = some (.int .i64 (ouAt l k)) := by
 obtain ⟨j, rfl⟩ : ∃ j, k = j + 1 := ⟨k - 1, by omega⟩
 obtain ⟨b, off, c, hA, hc, c0, c1, c2, c3, c4, c5, c6⟩ := h.at7 (i := j) (by omega)
 refine ⟨b, off, hA, ?_, ?_⟩
 · simpa [laAt, hc] using c0
 · simpa [ouAt, hc] using c4
theorem size_list : (Tryz.prog.info? 28).map (·.size) = some 4 := by kernel_rfl
set_option maxRecDepth 100000 in
set_option maxHeartbeats 4000000 in
theorem Check_any (e : Edl) (A : Option Addr) (n c : Nat) (w : World) (hE : Env w) (hl : CutsAt w A n e.cuts) (hn : n ≤ 1000000) (hr0 : 0 ≤ e.rate) (hr1 : e.rate ≤ 255) (ht : e.title.size ≤ 140737488351232) (hf : ∀ c ∈ e.cuts, c.Fits) :
 Calls Tryz.prog 41 #[.agg (e.cells A n c)] w fun en w' => en = .returned (.int .i64 (edlErr e)) ∧ Ext w w' := by
 have HL := Lib.hid hl
 have HLn := Lib.hid hl.len
 have HF := Lib.hid hf
 have HE := Lib.hid hE
 clear hl hf hE
 have h1 := Lib.hid (@edl_char e)
 have h2 := Lib.hid (@edl_title e)
 have h3 := Lib.hid (@edl_rate e)
 have h4 := Lib.hid (@edl_many e)
 have h5 := Lib.hid (fun x => @edl_cuts e x)
 have h6 := Lib.hid (@edl_reels e)
 have h7 := Lib.hid (@edl_ok e)
 have HRE := Lib.hid (fun w' (hx : Ext w w') => Reels_any e A n c w' (HL.out.ext hx) hn)
 obtain ⟨title, rate, drop, cuts⟩ := e
 unfold Edl.cells at *
 dsimp only at *
 have HX0 := Lib.hid ((Ext.refl w).alloc (.cells #[.string title, .int .u8 rate, .bool drop, .slice A n c] 28))
 have HB0 := Lib.hid (Blk.new w 28 #[.string title, .int .u8 rate, .bool drop, .slice A n c])
 go_enter Tryz.func41, Tryz.ntmps41
 go_wp2_with fail
 refine (Valid_any title _ (HE.out.ext HX0.out) (by omega)).mono ?_
 rintro en w1 ⟨rfl, hx1⟩
 have HX1 := Lib.hid (HX0.out.trans hx1)
 have HB1 := Lib.hid (HB0.out.ext hx1)
 have hcell1 := fun o => HB1.out.cell o
 cases hv : vld title
 · have HV := Lib.hid hv
   clear hv
   go_wp2_with fail
   go_ret
   exact ⟨ret_int (by rw [h1.out HV.out]), HX1.out⟩
 have HV := Lib.hid hv
 clear hv h1
 by_cases ht4 : 400 < title.size
 · skip
   go_wp2_with fail
   go_ret
   exact ⟨ret_int (by rw [h2.out HV.out ht4]), HX1.out⟩
 have HT := Lib.hid ht4
 clear h2
 go_wp2_with fail
 refine (TBValid_any rate _ hr0 hr1).mono ?_
 rintro en w2 ⟨rfl, hx2⟩
 have HX2 := Lib.hid (HX1.out.trans hx2)
 have HB2 := Lib.hid (HB1.out.ext hx2)
 have hcell2 := fun o => HB2.out.cell o
 clear hcell1
 cases hok : rOk rate
 · have HO : Hid (rateOkB rate drop = false) := by show _ = _; unfold rateOkB; rw [hok]; rfl
   clear hok
   go_wp2_with fail
   go_ret
   exact ⟨ret_int (by rw [h3.out HV.out HT.out HO.out]), HX2.out⟩
 cases drop
 · have HO : Hid (rateOkB rate false = true) := by show _ = _; unfold rateOkB; rw [hok]; rfl
   clear hok
   have HX3 := HX2
   have HB3 := HB2
   have hcell3 := hcell2
   clear hcell2
   by_cases h64 : 64 < cuts.length
   · have h64' : (64 : Int) < (n : Int) := by have := HLn.out; omega
     go_wp2_with fail
     go_ret
     exact ⟨ret_int (by rw [h4.out HV.out HT.out HO.out h64]), HX3.out⟩
   have h64' : ¬ (64 : Int) < (n : Int) := by have := HLn.out; omega
   have H64 := Lib.hid h64
   clear h64 h3 h4
   go_wp2_with fail
   refine (Day_any rate false _ hr0 hr1).mono ?_
   rintro en w4 ⟨rfl, hx4⟩
   have HX4 := Lib.hid (HX3.out.trans hx4)
   have HB4 := Lib.hid (HB3.out.ext hx4)
   have hcell4 := fun o => HB4.out.cell o
   clear hcell3
   have hd9 := dayOf_bd rate false
   have HD : Hid (∃ day, day = dayOf rate false) := ⟨_, rfl⟩
   generalize dayOf rate false = day at *
   clear HD
   go_wp2_with fail
   go_loopw [45] (fun i wr => Chk45Rel w4 day n cuts i wr) (fun i _ => n - (intOf i).toNat)
   case atStart => exact ⟨0, Nat.zero_le _, rfl, Ext.refl _, by simp [laAt, ouAt]⟩
   case round =>
    obtain ⟨k, hk, rfl, hx, hP⟩ := hrel
    have HXr := Lib.hid (HX4.out.trans hx)
    have HBr := Lib.hid (HB4.out.ext hx)
    have hcellr := fun o => HBr.out.cell o
    clear hcell4
    by_cases hlt : k < n
    · obtain ⟨b, off, r, rfl, hr, c0, c1, c2, c3, c4, c5, c6⟩ := (HL.out.ext HXr.out).at7 hlt
      skip
      have HS := Lib.hid (cuts_step hr hP)
      have hfr : r.Fits := HF.out r (List.mem_of_getElem? hr)
      have HFr := Lib.hid hfr
      have HN1 := Lib.hid (@single_num r (laAt cuts k) day)
      have HN2 := Lib.hid (@single_ord r (laAt cuts k) day)
      have HN3 := Lib.hid (@single_cut r (laAt cuts k) day)
      have HI := Lib.hid (@cutErr_inn r day)
      have HCk := Lib.hid (fun w' => checkCut_any r day w' hfr hd9)
      have HPr := Lib.hid (fun h0 => prev_at (HL.out.ext HXr.out) (k := k) hk h0)
      have HLa0 : Hid (k = 0 → laAt cuts k = 0 ∧ ouAt cuts k = 0) := fun h => by subst h; exact ⟨rfl, rfl⟩
      clear hr hP hfr
      obtain ⟨num, rl, src, inn, out, nn, dd⟩ := r
      have HBc := Lib.hid (Blk.new wr 91 (Cut.cells ⟨num, rl, src, inn, out, nn, dd⟩))
      have HXc := Lib.hid ((Ext.refl wr).alloc (.cells (Cut.cells ⟨num, rl, src, inn, out, nn, dd⟩) 91))
      unfold Cut.cells at HBc HXc HCk
      dsimp only at *
      generalize laAt cuts k = la at *
      generalize ouAt cuts k = ou at *
      by_cases hn1 : num < 1
      · go_wp2_with fail
        go_ret
        exact ⟨ret_int (by rw [h5.out 2 HV.out HT.out HO.out H64.out (by rw [HS.out.1 (by rw [HN1.out (.inl hn1)]; decide), HN1.out (.inl hn1)]) (by decide)]), HXr.out.trans HXc.out⟩
      by_cases hn2 : 999 < num
      · go_wp2_with fail
        go_ret
        exact ⟨ret_int (by rw [h5.out 2 HV.out HT.out HO.out H64.out (by rw [HS.out.1 (by rw [HN1.out (.inr hn2)]; decide), HN1.out (.inr hn2)]) (by decide)]), HXr.out.trans HXc.out⟩
      have HNN : Hid (¬ (num < 1 ∨ 999 < num)) := by show ¬ _; omega
      by_cases hk0 : k = 0
      · obtain ⟨rfl, rfl⟩ := HLa0.out hk0
        subst hk0
        simp only [Nat.zero_mul, Nat.add_zero] at c0 c1 c2 c3 c4 c5 c6
        have HOr : Hid (¬ num ≤ 0) := by show ¬ _; omega
        go_wp2_with fail
        go_quiet (fail)
        go_wp2_with (refine wpList_loadB rfl 91 (.tmp 5) rfl _ 91 _ _ (by exact rfl) (by exact HBc.out.ext ((Ext.refl _).drewN _)) Tryz.underlying91 rfl (by exact size_cut) ?_)
        refine (HCk.out _).mono ?_
        rintro en w5 ⟨rfl, hx5⟩
        have HX5 := Lib.hid ((HXc.out.drewN _).trans hx5)
        have HB5 := Lib.hid ((HBc.out.ext ((Ext.refl _).drewN _)).ext hx5)
        have hcell5 := fun o => HB5.out.cell o
        have HSg := Lib.hid (HN3.out HNN.out HOr.out)
        by_cases hce : cutErr ⟨num, rl, src, inn, out, nn, dd⟩ day = 0
        · have HI0 := HI.out hce
          have HG := Lib.hid (HS.out.2.2 (HSg.out.trans hce) (by omega))
          rw [hce]
          go_wp2_with fail
          go_quiet (fail)
          go_wp2_with fail
          exact ⟨⟨1, by omega, by go_num, hx.trans (HX5.out.drewN _), HG.out⟩, by simp [intOf]; omega⟩
        · have hne : (cutErr ⟨num, rl, src, inn, out, nn, dd⟩ day != 0) = true := by simpa using hce
          have HC := Lib.hid hce
          have HG := Lib.hid (HS.out.1 (by rw [HSg.out]; exact hce))
          clear hce
          go_wp2_with fail
          go_ret
          exact ⟨ret_int (by rw [h5.out _ HV.out HT.out HO.out H64.out HG.out (by rw [HSg.out]; exact HC.out), HSg.out]), HXr.out.trans HX5.out⟩
      · obtain ⟨b', off', hA, p0, p4⟩ := HPr.out (by omega)
        cases hA
        have hki : (0 : Int) < (k : Int) := by omega
        have hkp : 0 < k := by omega
        have hcc := fun o => HBc.out.cell o
        have hcl := fun o => (HBr.out.ext HXc.out).cell o
        have pp0 := HXc.out.cell p0
        have hk1 : ((k : Int) - 1).toNat = k - 1 := by omega
        have hk2 : (k : Int) - 1 = ((k - 1 : Nat) : Int) := by omega
        by_cases hor : num ≤ la
        · go_wp2_with fail
          go_quiet (fail)
          go_wp2_with fail
          go_ret
          exact ⟨ret_int (by rw [h5.out 8 HV.out HT.out HO.out H64.out (by rw [HS.out.1 (by rw [HN2.out HNN.out hor]; decide), HN2.out HNN.out hor]) (by decide)]), (HXr.out.trans HXc.out).drewN _⟩
        · go_wp2_with fail
          go_quiet (fail)
          go_wp2_with (refine wpList_loadB rfl 91 (.tmp 5) rfl _ 91 _ _ (by exact rfl) (by exact HBc.out.ext ((Ext.refl _).drewN _)) Tryz.underlying91 rfl (by exact size_cut) ?_)
          refine (HCk.out _).mono ?_
          rintro en w5 ⟨rfl, hx5⟩
          have HX5 := Lib.hid ((HXc.out.drewN _).trans hx5)
          have HB5 := Lib.hid ((HBc.out.ext ((Ext.refl _).drewN _)).ext hx5)
          have HBl := Lib.hid (HBr.out.ext HX5.out)
          have hcell5 := fun o => HB5.out.cell o
          have hcelll := fun o => HBl.out.cell o
          have q0 := HX5.out.cell p0
          have q4 := HX5.out.cell p4
          have HSg := Lib.hid (HN3.out HNN.out hor)
          clear p0 p4 hcellr hcc hcl pp0
          by_cases hce : cutErr ⟨num, rl, src, inn, out, nn, dd⟩ day = 0
          · rw [hce]
            by_cases hov : inn < ou
            · have HG := Lib.hid (HS.out.2.1 (HSg.out.trans hce) hov)
              go_wp2_with fail
              go_quiet (fail)
              go_wp2_with fail
              go_ret
              exact ⟨ret_int (by rw [h5.out 14 HV.out HT.out HO.out H64.out HG.out (by decide)]), (HXr.out.trans HX5.out).drewN _⟩
            · have HG := Lib.hid (HS.out.2.2 (HSg.out.trans hce) (by omega))
              go_wp2_with fail
              go_quiet (fail)
              go_wp2_with fail
              exact ⟨⟨k + 1, by omega, by go_num, hx.trans (HX5.out.drewN _), HG.out⟩, by simp [intOf]; omega⟩
          · have hne : (cutErr ⟨num, rl, src, inn, out, nn, dd⟩ day != 0) = true := by simpa using hce
            have HC := Lib.hid hce
            have HG := Lib.hid (HS.out.1 (by rw [HSg.out]; exact hce))
            clear hce
            go_wp2_with fail
            go_ret
            exact ⟨ret_int (by rw [h5.out _ HV.out HT.out HO.out H64.out HG.out (by rw [HSg.out]; exact HC.out), HSg.out]), HXr.out.trans HX5.out⟩
    · have hkn : k = n := by omega
      subst hkn
      have HZ : Hid (cutsErr day 0 0 cuts = 0) := by
       show _ = _
       rw [hP, List.drop_eq_nil_of_le (by have := HLn.out; omega)]
       rfl
      clear hP
      go_wp2_with (refine wpList_loadB rfl 28 (.tmp 1) rfl _ 28 _ _ (by exact rfl) (by exact HBr.out) Tryz.underlying28 rfl (by exact size_list) ?_)
      refine (HRE.out _ HXr.out).mono ?_
      rintro en w5 ⟨A5, m, c5, rfl, hm, hx5⟩
      have HM := Lib.hid hm
      clear hm
      by_cases h16 : 16 < m
      · have h16' : (16 : Int) < (m : Int) := by omega
        go_wp2_with fail
        go_ret
        exact ⟨ret_int (by rw [h6.out HV.out HT.out HO.out H64.out HZ.out (by rw [← HM.out]; exact h16)]), HXr.out.trans hx5⟩
      · have h16' : ¬ (16 : Int) < (m : Int) := by omega
        go_wp2_with fail
        go_ret
        exact ⟨ret_int (by rw [h7.out HV.out HT.out HO.out H64.out HZ.out (by rw [← HM.out]; exact h16)]), HXr.out.trans hx5⟩
 · go_wp2_with fail
   refine (CanDrop_any rate _ hr0 hr1).mono ?_
   rintro en w3 ⟨rfl, hx3⟩
   have HX3 := Lib.hid (HX2.out.trans hx3)
   have HB3 := Lib.hid (HB2.out.ext hx3)
   have hcell3 := fun o => HB3.out.cell o
   clear hcell2
   cases hdr : rDrop rate
   · have HO : Hid (rateOkB rate true = false) := by show _ = _; unfold rateOkB; rw [hok, hdr]; rfl
     clear hok hdr
     go_wp2_with fail
     go_ret
     exact ⟨ret_int (by rw [h3.out HV.out HT.out HO.out]), HX3.out⟩
   have HO : Hid (rateOkB rate true = true) := by show _ = _; unfold rateOkB; rw [hok, hdr]; rfl
   clear hok hdr
   by_cases h64 : 64 < cuts.length
   · have h64' : (64 : Int) < (n : Int) := by have := HLn.out; omega
     go_wp2_with fail
     go_ret
     exact ⟨ret_int (by rw [h4.out HV.out HT.out HO.out h64]), HX3.out⟩
   have h64' : ¬ (64 : Int) < (n : Int) := by have := HLn.out; omega
   have H64 := Lib.hid h64
   clear h64 h3 h4
   go_wp2_with fail
   refine (Day_any rate true _ hr0 hr1).mono ?_
   rintro en w4 ⟨rfl, hx4⟩
   have HX4 := Lib.hid (HX3.out.trans hx4)
   have HB4 := Lib.hid (HB3.out.ext hx4)
   have hcell4 := fun o => HB4.out.cell o
   clear hcell3
   have hd9 := dayOf_bd rate true
   have HD : Hid (∃ day, day = dayOf rate true) := ⟨_, rfl⟩
   generalize dayOf rate true = day at *
   clear HD
   go_wp2_with fail
   go_loopw [45] (fun i wr => Chk45Rel w4 day n cuts i wr) (fun i _ => n - (intOf i).toNat)
   case atStart => exact ⟨0, Nat.zero_le _, rfl, Ext.refl _, by simp [laAt, ouAt]⟩
   case round =>
    obtain ⟨k, hk, rfl, hx, hP⟩ := hrel
    have HXr := Lib.hid (HX4.out.trans hx)
    have HBr := Lib.hid (HB4.out.ext hx)
    have hcellr := fun o => HBr.out.cell o
    clear hcell4
    by_cases hlt : k < n
    · obtain ⟨b, off, r, rfl, hr, c0, c1, c2, c3, c4, c5, c6⟩ := (HL.out.ext HXr.out).at7 hlt
      skip
      have HS := Lib.hid (cuts_step hr hP)
      have hfr : r.Fits := HF.out r (List.mem_of_getElem? hr)
      have HFr := Lib.hid hfr
      have HN1 := Lib.hid (@single_num r (laAt cuts k) day)
      have HN2 := Lib.hid (@single_ord r (laAt cuts k) day)
      have HN3 := Lib.hid (@single_cut r (laAt cuts k) day)
      have HI := Lib.hid (@cutErr_inn r day)
      have HCk := Lib.hid (fun w' => checkCut_any r day w' hfr hd9)
      have HPr := Lib.hid (fun h0 => prev_at (HL.out.ext HXr.out) (k := k) hk h0)
      have HLa0 : Hid (k = 0 → laAt cuts k = 0 ∧ ouAt cuts k = 0) := fun h => by subst h; exact ⟨rfl, rfl⟩
      clear hr hP hfr
      obtain ⟨num, rl, src, inn, out, nn, dd⟩ := r
      have HBc := Lib.hid (Blk.new wr 91 (Cut.cells ⟨num, rl, src, inn, out, nn, dd⟩))
      have HXc := Lib.hid ((Ext.refl wr).alloc (.cells (Cut.cells ⟨num, rl, src, inn, out, nn, dd⟩) 91))
      unfold Cut.cells at HBc HXc HCk
      dsimp only at *
      generalize laAt cuts k = la at *
      generalize ouAt cuts k = ou at *
      by_cases hn1 : num < 1
      · go_wp2_with fail
        go_ret
        exact ⟨ret_int (by rw [h5.out 2 HV.out HT.out HO.out H64.out (by rw [HS.out.1 (by rw [HN1.out (.inl hn1)]; decide), HN1.out (.inl hn1)]) (by decide)]), HXr.out.trans HXc.out⟩
      by_cases hn2 : 999 < num
      · go_wp2_with fail
        go_ret
        exact ⟨ret_int (by rw [h5.out 2 HV.out HT.out HO.out H64.out (by rw [HS.out.1 (by rw [HN1.out (.inr hn2)]; decide), HN1.out (.inr hn2)]) (by decide)]), HXr.out.trans HXc.out⟩
      have HNN : Hid (¬ (num < 1 ∨ 999 < num)) := by show ¬ _; omega
      by_cases hk0 : k = 0
      · obtain ⟨rfl, rfl⟩ := HLa0.out hk0
        subst hk0
        simp only [Nat.zero_mul, Nat.add_zero] at c0 c1 c2 c3 c4 c5 c6
        have HOr : Hid (¬ num ≤ 0) := by show ¬ _; omega
        go_wp2_with fail
        go_quiet (fail)
        go_wp2_with (refine wpList_loadB rfl 91 (.tmp 5) rfl _ 91 _ _ (by exact rfl) (by exact HBc.out.ext ((Ext.refl _).drewN _)) Tryz.underlying91 rfl (by exact size_cut) ?_)
        refine (HCk.out _).mono ?_
        rintro en w5 ⟨rfl, hx5⟩
        have HX5 := Lib.hid ((HXc.out.drewN _).trans hx5)
        have HB5 := Lib.hid ((HBc.out.ext ((Ext.refl _).drewN _)).ext hx5)
        have hcell5 := fun o => HB5.out.cell o
        have HSg := Lib.hid (HN3.out HNN.out HOr.out)
        by_cases hce : cutErr ⟨num, rl, src, inn, out, nn, dd⟩ day = 0
        · have HI0 := HI.out hce
          have HG := Lib.hid (HS.out.2.2 (HSg.out.trans hce) (by omega))
          rw [hce]
          go_wp2_with fail
          go_quiet (fail)
          go_wp2_with fail
          exact ⟨⟨1, by omega, by go_num, hx.trans (HX5.out.drewN _), HG.out⟩, by simp [intOf]; omega⟩
        · have hne : (cutErr ⟨num, rl, src, inn, out, nn, dd⟩ day != 0) = true := by simpa using hce
          have HC := Lib.hid hce
          have HG := Lib.hid (HS.out.1 (by rw [HSg.out]; exact hce))
          clear hce
          go_wp2_with fail
          go_ret
          exact ⟨ret_int (by rw [h5.out _ HV.out HT.out HO.out H64.out HG.out (by rw [HSg.out]; exact HC.out), HSg.out]), HXr.out.trans HX5.out⟩
      · obtain ⟨b', off', hA, p0, p4⟩ := HPr.out (by omega)
        cases hA
        have hki : (0 : Int) < (k : Int) := by omega
        have hkp : 0 < k := by omega
        have hcc := fun o => HBc.out.cell o
        have hcl := fun o => (HBr.out.ext HXc.out).cell o
        have pp0 := HXc.out.cell p0
        have hk1 : ((k : Int) - 1).toNat = k - 1 := by omega
        have hk2 : (k : Int) - 1 = ((k - 1 : Nat) : Int) := by omega
        by_cases hor : num ≤ la
        · go_wp2_with fail
          go_quiet (fail)
          go_wp2_with fail
          go_ret
          exact ⟨ret_int (by rw [h5.out 8 HV.out HT.out HO.out H64.out (by rw [HS.out.1 (by rw [HN2.out HNN.out hor]; decide), HN2.out HNN.out hor]) (by decide)]), (HXr.out.trans HXc.out).drewN _⟩
        · go_wp2_with fail
          go_quiet (fail)
          go_wp2_with (refine wpList_loadB rfl 91 (.tmp 5) rfl _ 91 _ _ (by exact rfl) (by exact HBc.out.ext ((Ext.refl _).drewN _)) Tryz.underlying91 rfl (by exact size_cut) ?_)
          refine (HCk.out _).mono ?_
          rintro en w5 ⟨rfl, hx5⟩
          have HX5 := Lib.hid ((HXc.out.drewN _).trans hx5)
          have HB5 := Lib.hid ((HBc.out.ext ((Ext.refl _).drewN _)).ext hx5)
          have HBl := Lib.hid (HBr.out.ext HX5.out)
          have hcell5 := fun o => HB5.out.cell o
          have hcelll := fun o => HBl.out.cell o
          have q0 := HX5.out.cell p0
          have q4 := HX5.out.cell p4
          have HSg := Lib.hid (HN3.out HNN.out hor)
          clear p0 p4 hcellr hcc hcl pp0
          by_cases hce : cutErr ⟨num, rl, src, inn, out, nn, dd⟩ day = 0
          · rw [hce]
            by_cases hov : inn < ou
            · have HG := Lib.hid (HS.out.2.1 (HSg.out.trans hce) hov)
              go_wp2_with fail
              go_quiet (fail)
              go_wp2_with fail
              go_ret
              exact ⟨ret_int (by rw [h5.out 14 HV.out HT.out HO.out H64.out HG.out (by decide)]), (HXr.out.trans HX5.out).drewN _⟩
            · have HG := Lib.hid (HS.out.2.2 (HSg.out.trans hce) (by omega))
              go_wp2_with fail
              go_quiet (fail)
              go_wp2_with fail
              exact ⟨⟨k + 1, by omega, by go_num, hx.trans (HX5.out.drewN _), HG.out⟩, by simp [intOf]; omega⟩
          · have hne : (cutErr ⟨num, rl, src, inn, out, nn, dd⟩ day != 0) = true := by simpa using hce
            have HC := Lib.hid hce
            have HG := Lib.hid (HS.out.1 (by rw [HSg.out]; exact hce))
            clear hce
            go_wp2_with fail
            go_ret
            exact ⟨ret_int (by rw [h5.out _ HV.out HT.out HO.out H64.out HG.out (by rw [HSg.out]; exact HC.out), HSg.out]), HXr.out.trans HX5.out⟩
    · have hkn : k = n := by omega
      subst hkn
      have HZ : Hid (cutsErr day 0 0 cuts = 0) := by
       show _ = _
       rw [hP, List.drop_eq_nil_of_le (by have := HLn.out; omega)]
       rfl
      clear hP
      go_wp2_with (refine wpList_loadB rfl 28 (.tmp 1) rfl _ 28 _ _ (by exact rfl) (by exact HBr.out) Tryz.underlying28 rfl (by exact size_list) ?_)
      refine (HRE.out _ HXr.out).mono ?_
      rintro en w5 ⟨A5, m, c5, rfl, hm, hx5⟩
      have HM := Lib.hid hm
      clear hm
      by_cases h16 : 16 < m
      · have h16' : (16 : Int) < (m : Int) := by omega
        go_wp2_with fail
        go_ret
        exact ⟨ret_int (by rw [h6.out HV.out HT.out HO.out H64.out HZ.out (by rw [← HM.out]; exact h16)]), HXr.out.trans hx5⟩
      · have h16' : ¬ (16 : Int) < (m : Int) := by omega
        go_wp2_with fail
        go_ret
        exact ⟨ret_int (by rw [h7.out HV.out HT.out HO.out H64.out HZ.out (by rw [← HM.out]; exact h16)]), HXr.out.trans hx5⟩
end
section
open Go.RowKit
end
section
open Go.RowKit
end
section
open Go.RowKit Go.Shelf Go.Sort
def strF (s : ByteArray) : List Value := [.string s]
def bsL (os : List ByteArray) : List Bs := os.map (·.data.toList)
def RReelsRel (w w0 : World) (n : Nat) (l : List Cut) (v i : Value) (wr : World) : Prop :=
 ∃ (k : Nat) (os : List ByteArray), k ≤ n ∧ i = .int .i64 k ∧ Ext w0 wr ∧ Ext w wr ∧ os.length ≤ k ∧ wr.ownsRow w0.heap.size 9 1 v os.length (os.flatMap strF) ∧ (bsL os).Pairwise (· < ·) ∧ ∀ x, x ∈ bsL os ↔ x ∈ (l.take k).map fun c => c.reel.data.toList
def RInRel (w2 : World) (os : List ByteArray) (x : ByteArray) (v : Value) (wr : World) : Prop :=
 ∃ j : Nat, j ≤ os.length ∧ v = .int .i64 j ∧ Ext w2 wr ∧ w2.heap.size = wr.heap.size ∧ ∀ i y, i < j → (bsL os)[i]? = some y → y < x.data.toList
end
section
open Go.RowKit
def RCheckRel (w : World) (day : Int) (n : Nat) (l : List Cut) (v4 v5 i : Value) (wr : World) : Prop :=
 ∃ k : Nat, k ≤ n ∧ i = .int .i64 k ∧ v4 = .int .i64 (laAt l k) ∧ v5 = .int .i64 (ouAt l k) ∧ Ext w wr ∧ cutsErr day 0 0 l = cutsErr day (laAt l k) (ouAt l k) (l.drop k)
end
section
open Go.RowKit
def findC (l : List Cut) (t : Int) : Option Cut := l.find? fun c => decide (c.inn ≤ t ∧ t < c.out)
def atE (e : Edl) (t : Int) : ByteArray × Int × Bool :=
 if edlErr e = 0 then (match findC e.cuts t with | some c => (c.reel, srcAt c t, true) | none => (⟨#[]⟩, 0, false)) else (⟨#[]⟩, 0, false)
def atVal (r : ByteArray × Int × Bool) : Value := .tuple #[.agg #[.string r.1, .int .i64 r.2.1], .bool r.2.2]
def At45Rel (w1 : World) (n : Nat) (l : List Cut) (t : Int) (i : Value) (wr : World) : Prop := ∃ k : Nat, k ≤ n ∧ i = .int .i64 k ∧ Ext w1 wr ∧ findC l t = findC (l.drop k) t
def AtSt (W : World) (g : Nat) (T : TypeId) (v : Value) (cs : Array Value) : List Value → World → Prop
 | [], w => Ext W w
 | [u], w => u = v ∧ Ext W w
 | [_, u], w => u = .agg cs ∧ Ext W w
 | [_, _, _], w => ∃ w5, Ext W w5 ∧ w = putB w5 g T cs
 | [_, _, _, b], w => b = .bool true ∧ ∃ w5, Ext W w5 ∧ w = putB w5 g T cs
 | _, _ => False
theorem AtSt.ext {W : World} {g : Nat} {T : TypeId} {v : Value} {cs : Array Value} : ∀ {us : List Value} {w : World}, AtSt W g T v cs us w → us.length ≤ 1 → Ext W w
 | [], _, h, _ => h
 | [_], _, h, _ => h.2
 | _ :: _ :: _, _, _, h => by simp at h
structure EdlOk (e : Edl) : Prop where
 r0 : 0 ≤ e.rate
 r1 : e.rate ≤ 255
 title : e.title.size ≤ 140737488351232
 fits : ∀ c ∈ e.cuts, c.Fits
end
section
open Go.RowKit Go.ChangeShapes Go.WideShapes Go.ChangeAt
set_option maxRecDepth 100000
theorem arg_int64 {H : Type} {enc : TypeId × Value → H} {W : World} {base : Nat} {v : Value} {d : DataW H} {p : List MemPlace} (hv : Value.okWide Tryz.prog W .any base 2 v) (h : DataW.Trod enc Tryz.prog W 0 (fun _ => true) true 2 v d p)
 (hw : ∀ n ∈ d.weights Tryz.prog 2, n ≤ reachBytes) : ∃ k : Int, v = .int .i64 k ∧ I64 k := by
 obtain ⟨fuel, h⟩ := h
 obtain ⟨a, ha, hb⟩ := Opens.int Tryz.underlying2 H enc fuel _ _ h hw
 unfold Value.okWide at hv
 rw [Tryz.underlying2] at hv
 cases v with
 | agg cs => exact absurd hv (by unfold Cell.okWide; rw [Tryz.underlying2]; simp [Cell.ok])
 | _ => first | (refine ⟨a, ?_, bounds_i64 hb⟩; exact (List.cons.inj ha).1) | (simp at hv; done)
def wlist {H : Type} : DataW H := .agg [.lit (.string []), .lit (.int .u8 0), .lit (.bool false), .nil]
end
end Go.Proofs.YtablhmobekmflaaGreatDoor