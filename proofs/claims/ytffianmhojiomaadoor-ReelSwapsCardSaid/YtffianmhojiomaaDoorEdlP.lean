/- The first error of an edit decision list, plainly. -/
import Derived.Test.YtffianmhojiomaaDoorEdlB
import Derived.Test.YtffianmhojiomaaDoorRateB
import Derived.Test.YtffianmhojiomaaDoorReels
import Derived.Test.YtffianmhojiomaaDoorCharB
namespace Go.Proofs.YtffianmhojiomaaDoor
set_option linter.unusedVariables false
set_option linter.unusedSimpArgs false
open Go.RowKit

/-- the first error of the cuts behind a number and a frame -/
def cutsErr (day : Int) : Int → Int → List Cut → Int
  | _, _, [] => 0
  | la, ou, c :: r => if singleErr c la day ≠ 0 then singleErr c la day else if c.inn < ou then 14 else cutsErr day c.num c.out r
def edlErr (e : Edl) : Int :=
  if vld e.title = false then 10 else if 400 < e.title.size then 9 else if rateOkB e.rate e.drop = false then 13 else if 64 < e.cuts.length then 9 else
    if cutsErr (dayOf e.rate e.drop) 0 0 e.cuts ≠ 0 then cutsErr (dayOf e.rate e.drop) 0 0 e.cuts else if 16 < cnt e.names then 9 else 0
def laAt (l : List Cut) : Nat → Int | 0 => 0 | k + 1 => ((l[k]?).map (·.num)).getD 0
def ouAt (l : List Cut) : Nat → Int | 0 => 0 | k + 1 => ((l[k]?).map (·.out)).getD 0

theorem cuts_step {l : List Cut} {k : Nat} {r : Cut} {day E : Int} (hr : l[k]? = some r) (hP : E = cutsErr day (laAt l k) (ouAt l k) (l.drop k)) :
    (singleErr r (laAt l k) day ≠ 0 → E = singleErr r (laAt l k) day) ∧ (singleErr r (laAt l k) day = 0 → r.inn < ouAt l k → E = 14) ∧
      (singleErr r (laAt l k) day = 0 → ¬ r.inn < ouAt l k → E = cutsErr day (laAt l (k + 1)) (ouAt l (k + 1)) (l.drop (k + 1))) := by
  obtain ⟨hk, hk2⟩ := List.getElem?_eq_some_iff.1 hr
  rw [List.drop_eq_getElem_cons hk, hk2] at hP
  unfold cutsErr at hP
  refine ⟨fun h => ?_, fun h h2 => ?_, fun h h2 => ?_⟩
  · rw [if_pos h] at hP; exact hP
  · rw [if_neg (by omega), if_pos h2] at hP; exact hP
  · rw [if_neg (by omega), if_neg h2] at hP
    rw [hP]
    simp [laAt, ouAt, hr]
theorem single_num {c : Cut} {la day : Int} (h : c.num < 1 ∨ 999 < c.num) : singleErr c la day = 2 := by unfold singleErr; rw [if_pos h]
theorem single_ord {c : Cut} {la day : Int} (h : ¬ (c.num < 1 ∨ 999 < c.num)) (h2 : c.num ≤ la) : singleErr c la day = 8 := by unfold singleErr; rw [if_neg h, if_pos h2]
theorem single_cut {c : Cut} {la day : Int} (h : ¬ (c.num < 1 ∨ 999 < c.num)) (h2 : ¬ c.num ≤ la) : singleErr c la day = cutErr c day := by unfold singleErr; rw [if_neg h, if_neg h2]
theorem cutErr_inn {c : Cut} {day : Int} (h : cutErr c day = 0) : 0 ≤ c.inn := by
  unfold cutErr at h
  repeat' split at h
  all_goals first | omega | (exact absurd h (by decide)) | skip
theorem edl_char {e : Edl} (h : vld e.title = false) : edlErr e = 10 := by unfold edlErr; rw [if_pos h]
theorem edl_title {e : Edl} (h : vld e.title = true) (h1 : 400 < e.title.size) : edlErr e = 9 := by unfold edlErr; rw [if_neg (by simp [h]), if_pos h1]
theorem edl_rate {e : Edl} (h : vld e.title = true) (h1 : ¬ 400 < e.title.size) (h2 : rateOkB e.rate e.drop = false) : edlErr e = 13 := by unfold edlErr; rw [if_neg (by simp [h]), if_neg h1, if_pos h2]
theorem edl_many {e : Edl} (h : vld e.title = true) (h1 : ¬ 400 < e.title.size) (h2 : rateOkB e.rate e.drop = true) (h3 : 64 < e.cuts.length) : edlErr e = 9 := by unfold edlErr; rw [if_neg (by simp [h]), if_neg h1, if_neg (by simp [h2]), if_pos h3]
theorem edl_cuts {e : Edl} {x : Int} (h : vld e.title = true) (h1 : ¬ 400 < e.title.size) (h2 : rateOkB e.rate e.drop = true) (h3 : ¬ 64 < e.cuts.length) (h4 : cutsErr (dayOf e.rate e.drop) 0 0 e.cuts = x) (h5 : x ≠ 0) : edlErr e = x := by
  unfold edlErr; rw [if_neg (by simp [h]), if_neg h1, if_neg (by simp [h2]), if_neg h3, h4, if_pos h5]
theorem edl_reels {e : Edl} (h : vld e.title = true) (h1 : ¬ 400 < e.title.size) (h2 : rateOkB e.rate e.drop = true) (h3 : ¬ 64 < e.cuts.length) (h4 : cutsErr (dayOf e.rate e.drop) 0 0 e.cuts = 0) (h5 : 16 < cnt e.names) : edlErr e = 9 := by
  unfold edlErr; rw [if_neg (by simp [h]), if_neg h1, if_neg (by simp [h2]), if_neg h3, h4, if_neg (by omega), if_pos h5]
theorem edl_ok {e : Edl} (h : vld e.title = true) (h1 : ¬ 400 < e.title.size) (h2 : rateOkB e.rate e.drop = true) (h3 : ¬ 64 < e.cuts.length) (h4 : cutsErr (dayOf e.rate e.drop) 0 0 e.cuts = 0) (h5 : ¬ 16 < cnt e.names) : edlErr e = 0 := by
  unfold edlErr; rw [if_neg (by simp [h]), if_neg h1, if_neg (by simp [h2]), if_neg h3, h4, if_neg (by omega), if_neg h5]
/-- what an accepted list says of its cuts -/
theorem cutsErr_ok {day : Int} : ∀ {l : List Cut} {la ou : Int}, cutsErr day la ou l = 0 → ∀ c ∈ l, cutErr c day = 0 ∧ 1 ≤ c.num ∧ c.num ≤ 999
  | [], _, _, _, c, hc => by cases hc
  | d :: r, la, ou, h, c, hc => by
    unfold cutsErr at h
    split at h
    · omega
    · rename_i h0
      split at h
      · omega
      · rcases List.mem_cons.1 hc with rfl | hc
        · unfold singleErr at h0
          repeat' split at h0
          all_goals first | omega | exact ⟨by omega, by omega, by omega⟩
        · exact cutsErr_ok h c hc
theorem edlErr_ok {e : Edl} (h : edlErr e = 0) : vld e.title = true ∧ ¬ 400 < e.title.size ∧ rateOkB e.rate e.drop = true ∧ ¬ 64 < e.cuts.length ∧ cutsErr (dayOf e.rate e.drop) 0 0 e.cuts = 0 ∧ ¬ 16 < cnt e.names := by
  unfold edlErr at h
  repeat' split at h
  all_goals first | omega | skip
  rename_i h1 h2 h3 h4 h5 h6
  refine ⟨by simpa using h1, h2, by simpa using h3, h4, by omega, h6⟩
theorem cutErr_sane {c : Cut} {day : Int} (h : cutErr c day = 0) (hd : day ≤ 5184000) : c.Sane := by
  unfold cutErr at h
  repeat' split at h
  all_goals first | omega | skip
  rename_i h1 h2 h3 h4 h5
  have := speedB_true (by simpa using h4)
  refine ⟨?_, ?_, ?_, ?_, ?_, ?_, ?_, ?_, ?_⟩ <;> omega
theorem edl_sane {e : Edl} (h : edlErr e = 0) {c : Cut} (hc : c ∈ e.cuts) : c.Sane :=
  cutErr_sane (cutsErr_ok (edlErr_ok h).2.2.2.2.1 c hc).1 (dayOf_bd _ _)
end Go.Proofs.YtffianmhojiomaaDoor
