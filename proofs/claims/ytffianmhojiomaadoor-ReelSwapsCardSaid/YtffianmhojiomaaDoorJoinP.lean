/- Joined cuts, plainly. -/
import Derived.Test.YtffianmhojiomaaDoorSame45
namespace Go.Proofs.YtffianmhojiomaaDoor
set_option linter.unusedVariables false
set_option linter.unusedSimpArgs false
open Go.RowKit

def Cut.upto (p c : Cut) : Cut := { p with out := c.out }
def joinStep (out : List Cut) (c : Cut) : List Cut :=
  match out.getLast? with
  | some p => if goesB p c = true then out.dropLast ++ [p.upto c] else out ++ [c]
  | none => [c]
def joinC (l : List Cut) : List Cut := l.foldl joinStep []
theorem joinC_snoc (l : List Cut) (c : Cut) : joinC (l ++ [c]) = joinStep (joinC l) c := by simp [joinC, List.foldl_append]
theorem joinStep_nil (c : Cut) : joinStep [] c = [c] := rfl
theorem joinStep_go {ps : List Cut} {p c : Cut} (h : goesB p c = true) : joinStep (ps ++ [p]) c = ps ++ [p.upto c] := by simp [joinStep, h]
theorem joinStep_no {ps : List Cut} {p c : Cut} (h : goesB p c = false) : joinStep (ps ++ [p]) c = ps ++ [p] ++ [c] := by simp [joinStep, h]
theorem goesB_true {a b : Cut} (h : goesB a b = true) : a.reel = b.reel ∧ a.n = 1 ∧ a.d = 1 ∧ b.n = 1 ∧ b.d = 1 ∧ a.out = b.inn ∧ a.src + a.out - a.inn = b.src := of_decide_eq_true h
theorem snoc_of {α : Type} : ∀ {l : List α}, l ≠ [] → ∃ ps p, l = ps ++ [p]
  | [], h => absurd rfl h
  | [x], _ => ⟨[], x, rfl⟩
  | x :: y :: l, _ => by
    obtain ⟨ps, p, he⟩ := snoc_of (l := y :: l) (by simp)
    exact ⟨x :: ps, p, by rw [he]; rfl⟩
/-- what holds of the empty list and stays when a cut is joined -/
theorem joinC_ind {P : List Cut → List Cut → Prop} (l : List Cut) (h0 : P [] l)
    (h1 : ∀ c r, P [] (c :: r) → P [c] r) (h2 : ∀ ps p c r, goesB p c = true → c ∈ l → P (ps ++ [p]) (c :: r) → P (ps ++ [p.upto c]) r) (h3 : ∀ ps p c r, goesB p c = false → P (ps ++ [p]) (c :: r) → P (ps ++ [p] ++ [c]) r) :
    ∀ k, k ≤ l.length → P (joinC (l.take k)) (l.drop k)
  | 0, _ => by simpa [joinC] using h0
  | k + 1, hk => by
    have ih := joinC_ind l h0 h1 h2 h3 k (by omega)
    have hx : l[k]? = some l[k] := List.getElem?_eq_getElem (by omega)
    rw [take_snoc' l k _ hx, joinC_snoc]
    rw [List.drop_eq_getElem_cons (show k < l.length by omega)] at ih
    by_cases hn : joinC (l.take k) = []
    · rw [hn] at ih ⊢
      rw [joinStep_nil]
      exact h1 _ _ ih
    · obtain ⟨ps, p, he⟩ := snoc_of hn
      rw [he] at ih ⊢
      cases hg : goesB p l[k]
      · rw [joinStep_no hg]; exact h3 _ _ _ _ hg ih
      · rw [joinStep_go hg]; exact h2 _ _ _ _ hg (List.getElem_mem _) ih
theorem joinC_end {P : List Cut → List Cut → Prop} (l : List Cut) (h : ∀ k, k ≤ l.length → P (joinC (l.take k)) (l.drop k)) : P (joinC l) [] := by
  have := h l.length (Nat.le_refl _)
  rwa [List.take_length, List.drop_length] at this

theorem joinC_all {P : List Cut → List Cut → Prop} (l : List Cut) (h0 : P [] l)
    (h1 : ∀ c r, P [] (c :: r) → P [c] r) (h2 : ∀ ps p c r, goesB p c = true → c ∈ l → P (ps ++ [p]) (c :: r) → P (ps ++ [p.upto c]) r) (h3 : ∀ ps p c r, goesB p c = false → P (ps ++ [p]) (c :: r) → P (ps ++ [p] ++ [c]) r) : P (joinC l) [] :=
  joinC_end l (joinC_ind l h0 h1 h2 h3)
theorem joinC_len (l : List Cut) (k : Nat) (hk : k ≤ l.length) : (joinC (l.take k)).length ≤ k := by
  have := joinC_ind (P := fun a b => a.length + b.length ≤ l.length) l (by simp) (fun c r h => by simp at h ⊢; omega) (fun ps p c r _ _ h => by simp at h ⊢; omega) (fun ps p c r _ h => by simp at h ⊢; omega) k hk
  simp at this
  omega
theorem upto_sane {p c : Cut} (h : goesB p c = true) (hp : p.Sane) (hc : c.Sane) : (p.upto c).Sane := by
  obtain ⟨h1, h2, h3, h4, h5, h6, h7⟩ := goesB_true h
  obtain ⟨a1, a2, a3, a4, a5, a6, a7, a8, a9⟩ := hp
  obtain ⟨b1, b2, b3, b4, b5, b6, b7, b8, b9⟩ := hc
  exact ⟨a1, show p.inn < c.out by omega, b3, a4, a5, a6, a7, a8, a9⟩
theorem joinC_sane {l : List Cut} (hl : ∀ c ∈ l, c.Sane) (k : Nat) (hk : k ≤ l.length) : ∀ c ∈ joinC (l.take k), c.Sane := by
  have := joinC_ind (P := fun a b => (∀ c ∈ a, c.Sane) ∧ ∀ c ∈ b, c.Sane) l ⟨by simp, hl⟩ (fun c r h => ⟨fun x hx => by simp at hx; subst hx; exact h.2 x (by simp), fun x hx => h.2 x (by simp [hx])⟩)
    (fun ps p c r hg _ h => ⟨fun x hx => by
      rcases List.mem_append.1 hx with hx | hx
      · exact h.1 x (by simp [hx])
      · simp at hx; subst hx; exact upto_sane hg (h.1 p (by simp)) (h.2 c (by simp)), fun x hx => h.2 x (by simp [hx])⟩)
    (fun ps p c r _ h => ⟨fun x hx => by
      rcases List.mem_append.1 hx with hx | hx
      · exact h.1 x hx
      · simp at hx; subst hx; exact h.2 x (by simp), fun x hx => h.2 x (by simp [hx])⟩) k hk
  exact this.1
theorem joinC_fits {l : List Cut} (hl : ∀ c ∈ l, c.Fits) : ∀ c ∈ joinC l, c.Fits := by
  have := joinC_all (P := fun a b => (∀ c ∈ a, c.Fits) ∧ ∀ c ∈ b, c.Fits) l ⟨by simp, hl⟩ (fun c r h => ⟨fun x hx => by simp at hx; subst hx; exact h.2 x (by simp), fun x hx => h.2 x (by simp [hx])⟩)
    (fun ps p c r hg _ h => ⟨fun x hx => by
      rcases List.mem_append.1 hx with hx | hx
      · exact h.1 x (by simp [hx])
      · simp at hx
        subst hx
        obtain ⟨f1, f2, f3, f4, f5, f6, f7⟩ := h.1 p (by simp)
        exact ⟨f1, f2, f3, (h.2 c (by simp)).2.2.2.1, f5, f6, f7⟩, fun x hx => h.2 x (by simp [hx])⟩)
    (fun ps p c r _ h => ⟨fun x hx => by
      rcases List.mem_append.1 hx with hx | hx
      · exact h.1 x hx
      · simp at hx; subst hx; exact h.2 x (by simp), fun x hx => h.2 x (by simp [hx])⟩)
  exact this.1

/-- the joined list -/
def joinE (e : Edl) : Edl := if edlErr e = 0 then { e with cuts := joinC e.cuts } else ⟨⟨#[]⟩, 0, false, []⟩
theorem joinE_ok {e : Edl} (h : edlErr e = 0) : joinE e = { e with cuts := joinC e.cuts } := if_pos h
theorem joinE_err {e : Edl} (h : edlErr e ≠ 0) : joinE e = ⟨⟨#[]⟩, 0, false, []⟩ := if_neg h

theorem cutsErr_mono {day la la' ou : Int} {r : List Cut} (hl : la' ≤ la) (h : cutsErr day la ou r = 0) : cutsErr day la' ou r = 0 := by
  cases r with
  | nil => rfl
  | cons d r =>
    unfold cutsErr at h ⊢
    split at h
    · omega
    · rename_i h0
      have h1 : singleErr d la' day = 0 := by
        unfold singleErr at h0 ⊢
        by_cases ha : d.num < 1 ∨ 999 < d.num
        · rw [if_pos ha] at h0; omega
        · rw [if_neg ha] at h0 ⊢
          by_cases hb : d.num ≤ la
          · rw [if_pos hb] at h0; omega
          · rw [if_neg hb] at h0
            rw [if_neg (by omega)]
            omega
      rw [if_neg (by omega)]
      exact h
theorem cutsErr_cons {day la ou : Int} {c : Cut} {r : List Cut} : cutsErr day la ou (c :: r) = 0 ↔ singleErr c la day = 0 ∧ ¬ c.inn < ou ∧ cutsErr day c.num c.out r = 0 := by
  rw [cutsErr]
  constructor
  · intro h
    split at h
    · omega
    · split at h
      · omega
      · exact ⟨by omega, by assumption, h⟩
  · rintro ⟨h1, h2, h3⟩
    rw [if_neg (by omega), if_neg h2]
    exact h3
theorem cutErr_zero {c : Cut} {day : Int} : cutErr c day = 0 ↔ nameB c.reel = true ∧ c.inn < c.out ∧ 0 ≤ c.inn ∧ c.out < day ∧ speedB c = true ∧ 0 ≤ c.src ∧ c.src < day ∧ srcAt c (c.out - 1) < day := by
  constructor
  · intro h
    unfold cutErr at h
    repeat' split at h
    all_goals first | omega | skip
    rename_i h1 h2 h3 h4 h5
    exact ⟨by simpa using h1, by omega, by omega, by omega, by simpa using h4, by omega, by omega, by omega⟩
  · rintro ⟨h1, h2, h3, h4, h5, h6, h7, h8⟩
    exact cutErr_ok h1 (by omega) (by omega) h5 (by omega)
theorem single_zero {c : Cut} {la day : Int} : singleErr c la day = 0 ↔ 1 ≤ c.num ∧ c.num ≤ 999 ∧ la < c.num ∧ cutErr c day = 0 := by
  constructor
  · intro h
    unfold singleErr at h
    repeat' split at h
    all_goals first | omega | exact ⟨by omega, by omega, by omega, h⟩
  · rintro ⟨h1, h2, h3, h4⟩
    rw [single_cut (by omega) (by omega)]
    exact h4
theorem srcAt_one {c : Cut} (h1 : c.n = 1) (h2 : c.d = 1) (t : Int) : srcAt c t = c.src + (t - c.inn) := by unfold srcAt; rw [h1, h2, Int.mul_one, Int.ediv_one]
theorem cuts_join {day la ou : Int} {p c : Cut} {r : List Cut} (hg : goesB p c = true) (h : cutsErr day la ou (p :: c :: r) = 0) : cutsErr day la ou (p.upto c :: r) = 0 := by
  obtain ⟨g1, g2, g3, g4, g5, g6, g7⟩ := goesB_true hg
  rw [cutsErr_cons, cutsErr_cons, single_zero, single_zero, cutErr_zero, cutErr_zero] at h
  obtain ⟨⟨a1, a2, a3, b1, b2, b3, b4, b5, b6, b7, b8⟩, a4, ⟨c1, c2, c3, d1, d2, d3, d4, d5, d6, d7, d8⟩, c4, h5⟩ := h
  rw [srcAt_one g4 g5] at d8
  rw [cutsErr_cons, single_zero, cutErr_zero]
  refine ⟨⟨a1, a2, a3, b1, show p.inn < c.out by omega, b3, d4, b5, b6, b7, ?_⟩, a4, cutsErr_mono (show p.num ≤ c.num by omega) h5⟩
  rw [srcAt_one (c := p.upto c) g2 g3]
  show p.src + (c.out - 1 - p.inn) < day
  omega
theorem cuts_join' {day : Int} {p c : Cut} {r : List Cut} (hg : goesB p c = true) : ∀ (ps : List Cut) {la ou : Int}, cutsErr day la ou (ps ++ p :: c :: r) = 0 → cutsErr day la ou (ps ++ p.upto c :: r) = 0
  | [], _, _, h => cuts_join hg h
  | d :: ps, la, ou, h => by
    rw [List.cons_append, cutsErr_cons] at h ⊢
    exact ⟨h.1, h.2.1, cuts_join' hg ps h.2.2⟩
theorem join_ok {e : Edl} (h : edlErr e = 0) : edlErr (joinE e) = 0 := by
  rw [joinE_ok h]
  obtain ⟨h1, h2, h3, h4, h5, h6⟩ := edlErr_ok h
  have key := joinC_all (P := fun a b => (a ++ b).length ≤ 64 ∧ cutsErr (dayOf e.rate e.drop) 0 0 (a ++ b) = 0 ∧ ∀ x, x ∈ (a ++ b).map (fun c => c.reel.data.toList) ↔ x ∈ e.names) e.cuts ⟨by simp; omega, by simpa using h5, fun x => by simp [Edl.names]⟩
    (fun c r h => by simpa using h)
    (fun ps p c r hg _ h => by
      refine ⟨by have := h.1; simp at this ⊢; omega, ?_, fun x => ?_⟩
      · have := h.2.1
        rw [List.append_assoc] at this ⊢
        exact cuts_join' hg ps this
      · rw [← h.2.2 x]
        have hr := (goesB_true hg).1
        simp [Cut.upto, hr])
    (fun ps p c r _ h => by simpa using h)
  simp only [List.append_nil] at key
  exact edl_ok h1 h2 h3 (by show ¬ 64 < (joinC e.cuts).length; omega) key.2.1 (by rw [show cnt (Edl.names { e with cuts := joinC e.cuts }) = cnt e.names from cnt_perm key.2.2]; exact h6)

/-- what a list of cuts plays at a frame -/
def playC (l : List Cut) (t : Int) : Option (ByteArray × Int) := (findC l t).map fun c => (c.reel, srcAt c t)
theorem playC_cons (c : Cut) (l : List Cut) (t : Int) : playC (c :: l) t = if c.inn ≤ t ∧ t < c.out then some (c.reel, srcAt c t) else playC l t := by
  unfold playC findC
  rw [List.find?_cons]
  by_cases h : c.inn ≤ t ∧ t < c.out
  · rw [if_pos h, decide_eq_true h]; rfl
  · rw [if_neg h, decide_eq_false h]
theorem play_join {t : Int} {p c : Cut} {r : List Cut} (hg : goesB p c = true) (hp : p.inn < p.out) (hc : c.inn < c.out) : ∀ ps : List Cut, playC (ps ++ p.upto c :: r) t = playC (ps ++ p :: c :: r) t
  | [] => by
    obtain ⟨g1, g2, g3, g4, g5, g6, g7⟩ := goesB_true hg
    show playC (p.upto c :: r) t = playC (p :: c :: r) t
    rw [playC_cons, playC_cons, playC_cons, srcAt_one (c := p.upto c) g2 g3, srcAt_one g2 g3, srcAt_one g4 g5]
    show (if p.inn ≤ t ∧ t < c.out then some (p.reel, p.src + (t - p.inn)) else _) = _
    by_cases h1 : p.inn ≤ t ∧ t < p.out
    · rw [if_pos h1, if_pos (by omega)]
    · rw [if_neg h1]
      by_cases h2 : c.inn ≤ t ∧ t < c.out
      · rw [if_pos h2, if_pos (by omega), g1, show p.src + (t - p.inn) = c.src + (t - c.inn) by omega]
      · rw [if_neg h2, if_neg (by omega)]
  | d :: ps => by
    rw [List.cons_append, List.cons_append, playC_cons, playC_cons, play_join hg hp hc ps]
theorem join_play {l : List Cut} (hl : ∀ c ∈ l, c.Sane) (t : Int) : playC (joinC l) t = playC l t := by
  have key := joinC_all (P := fun a b => ((∀ c ∈ a, c.Sane) ∧ ∀ c ∈ b, c.Sane) ∧ playC (a ++ b) t = playC l t) l ⟨⟨by simp, hl⟩, by simp⟩
    (fun c r h => ⟨⟨fun x hx => by simp at hx; subst hx; exact h.1.2 x (by simp), fun x hx => h.1.2 x (by simp [hx])⟩, by simpa using h.2⟩)
    (fun ps p c r hg _ h => ⟨⟨fun x hx => by
      rcases List.mem_append.1 hx with hx | hx
      · exact h.1.1 x (by simp [hx])
      · simp at hx; subst hx; exact upto_sane hg (h.1.1 p (by simp)) (h.1.2 c (by simp)), fun x hx => h.1.2 x (by simp [hx])⟩, by
        rw [← h.2, List.append_assoc, List.append_assoc]
        exact play_join hg (h.1.1 p (by simp)).2.1 (h.1.2 c (by simp)).2.1 ps⟩)
    (fun ps p c r _ h => ⟨⟨fun x hx => by
      rcases List.mem_append.1 hx with hx | hx
      · exact h.1.1 x hx
      · simp at hx; subst hx; exact h.1.2 x (by simp), fun x hx => h.1.2 x (by simp [hx])⟩, by simpa using h.2⟩)
  simpa using key.2
theorem atE_play {e : Edl} (h : edlErr e = 0) (t : Int) : atE e t = (match playC e.cuts t with | some (r, f) => (r, f, true) | none => (⟨#[]⟩, 0, false)) := by
  unfold atE playC
  rw [if_pos h]
  cases findC e.cuts t <;> rfl
theorem join_at {e : Edl} (h : edlErr e = 0) (t : Int) : atE (joinE e) t = atE e t := by
  rw [atE_play (join_ok h), atE_play h, joinE_ok h]
  show (match playC (joinC e.cuts) t with | some (r, f) => (r, f, true) | none => (⟨#[]⟩, 0, false)) = _
  rw [join_play (fun c hc => edl_sane h hc)]

/-- no cut goes on in the next one -/
def stab : List Cut → Prop
  | p :: c :: r => goesB p c = false ∧ stab (c :: r)
  | _ => True
theorem stab_snoc {p c : Cut} : ∀ {ps : List Cut}, stab (ps ++ [p] ++ [c]) ↔ stab (ps ++ [p]) ∧ goesB p c = false
  | [] => by simp [stab]
  | [d] => by simp [stab, and_assoc]
  | d :: d' :: ps => by
    have := stab_snoc (p := p) (c := c) (ps := d' :: ps)
    simp only [List.cons_append, stab] at this ⊢
    rw [this, and_assoc]
theorem stab_init {c : Cut} {ps : List Cut} (h : stab (ps ++ [c])) : stab ps := by
  by_cases hn : ps = []
  · subst hn; trivial
  · obtain ⟨qs, q, rfl⟩ := snoc_of hn
    exact (stab_snoc.1 h).1
theorem stab_upto {p c : Cut} {ps : List Cut} (h : stab (ps ++ [p])) : stab (ps ++ [p.upto c]) := by
  by_cases hn : ps = []
  · subst hn; trivial
  · obtain ⟨qs, q, rfl⟩ := snoc_of hn
    exact stab_snoc.2 ⟨(stab_snoc.1 h).1, (stab_snoc.1 h).2⟩
theorem join_stab (l : List Cut) : stab (joinC l) :=
  joinC_all (P := fun a _ => stab a) l trivial (fun _ _ _ => trivial) (fun _ _ _ _ _ _ h => stab_upto h) (fun _ _ _ _ hg h => stab_snoc.2 ⟨h, hg⟩)
theorem join_of_stab {m : List Cut} (h : stab m) : joinC m = m := by
  have key : ∀ k, k ≤ m.length → stab (m.take k) → joinC (m.take k) = m.take k := by
    intro k
    induction k with
    | zero => intro _ _; simp [joinC]
    | succ k ih =>
      intro hk hs
      have hx : m[k]? = some m[k] := List.getElem?_eq_getElem (by omega)
      rw [take_snoc' m k _ hx] at hs ⊢
      rw [joinC_snoc, ih (by omega) (stab_init hs)]
      by_cases hn : m.take k = []
      · rw [hn]; rfl
      · obtain ⟨ps, p, he⟩ := snoc_of hn
        rw [he] at hs ⊢
        rw [joinStep_no (stab_snoc.1 hs).2]
  have := key m.length (Nat.le_refl _) (by simpa using h)
  simpa using this
theorem join_twice {e : Edl} (h : edlErr e = 0) : (joinE (joinE e)).cuts = (joinE e).cuts := by
  rw [joinE_ok (join_ok h), joinE_ok h]
  exact join_of_stab (join_stab _)
theorem joinE_edlok {e : Edl} (hok : EdlOk e) : EdlOk (joinE e) := by
  by_cases h : edlErr e = 0
  · rw [joinE_ok h]
    exact ⟨hok.r0, hok.r1, hok.title, joinC_fits hok.fits⟩
  · rw [joinE_err h]
    exact ⟨by decide, by decide, by decide, by simp⟩
end Go.Proofs.YtffianmhojiomaaDoor
