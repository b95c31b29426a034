/- Laid together: A comment on a text that rows are put ahead of: plainly. What the law on comments that stay asks of documents, plainly. Arguments opened: a list of rows, a document whose events' bulk is known. What the law on comments that stay needs of its document, in one place. A chain of operations in a region that draws its order, with guards that all hold. Rows laid together and stored into an event, in a region that draws its order. -/
import Derived.Test.YtagfedbdakmlgaaGreatDoorSt19
import Derived.Test.YtagfedbdakmlgaaGreatDoorSt10
import Derived.Test.YtagfedbdakmlgaaGreatDoorSt11
import Derived.Test.YtagfedbdakmlgaaGreatDoorSt18
import Derived.Test.YtagfedbdakmlgaaGreatDoorSt05
import Derived.Test.YtagfedbdakmlgaaGreatDoorSt06
import Derived.Test.YtagfedbdakmlgaaGreatDoorSt09

/-! StayP -/
namespace Go.Proofs.YtagfedbdakmlgaaGreatDoor
set_option linter.unusedVariables false
set_option linter.unusedSimpArgs false
open Go.RowKit
def runG : Nat → List UInt8 → List Int
  | 0, _ => []
  | f + 1, l => if l = [] then [] else ((Lib.decodeL l).1 : Int) :: runG f (l.drop (Lib.decodeL l).2)
def runL (l : List UInt8) : List Int := runG l.length l
theorem runG_fuel : ∀ (f g : Nat) (l : List UInt8), l.length ≤ f → l.length ≤ g → runG f l = runG g l
  | 0, 0, _, _, _ => rfl
  | 0, g + 1, l, h, _ => by
    obtain rfl : l = [] := List.eq_nil_of_length_eq_zero (by omega)
    simp [runG]
  | f + 1, 0, l, _, h => by
    obtain rfl : l = [] := List.eq_nil_of_length_eq_zero (by omega)
    simp [runG]
  | f + 1, g + 1, l, hf, hg => by
    unfold runG
    by_cases hne : l = []
    · simp [hne]
    · have hw := Lib.decodeL_width l
      have hl : 0 < l.length := List.length_pos_iff.2 hne
      rw [if_neg hne, if_neg hne, runG_fuel f g _ (by rw [List.length_drop]; omega) (by rw [List.length_drop]; omega)]
theorem runL_nil : runL [] = [] := rfl
theorem runL_step (l : List UInt8) (hne : l ≠ []) : runL l = ((Lib.decodeL l).1 : Int) :: runL (l.drop (Lib.decodeL l).2) := by
  have hw := Lib.decodeL_width l
  have hl : 0 < l.length := List.length_pos_iff.2 hne
  unfold runL
  obtain ⟨k, hk⟩ : ∃ k, l.length = k + 1 := ⟨l.length - 1, by omega⟩
  conv => lhs; rw [hk]; unfold runG
  rw [if_neg hne, runG_fuel k _ _ (by rw [List.length_drop]; omega) (Nat.le_refl _)]
theorem runL_append (m : List UInt8) : ∀ (f : Nat) (l : List UInt8), l.length ≤ f → Lib.validD l = true → runL (l ++ m) = runL l ++ runL m
  | 0, l, h, _ => by
    obtain rfl : l = [] := List.eq_nil_of_length_eq_zero (by omega)
    simp [runL_nil]
  | f + 1, l, h, hv => by
    by_cases hne : l = []
    · subst hne; simp [runL_nil]
    · have hw := Lib.decodeL_width l
      have hle := Lib.decodeL_le l hne
      have hl : 0 < l.length := List.length_pos_iff.2 hne
      rw [Lib.validD_step l hne] at hv
      split at hv
      · cases hv
      · rename_i hn
        have ha := decodeL_append l m hne hn
        have hne2 : l ++ m ≠ [] := by simp [hne]
        have i1 := runL_append m f (l.drop (Lib.decodeL l).2) (by rw [List.length_drop]; omega) hv
        have hd : (l ++ m).drop (Lib.decodeL l).2 = l.drop (Lib.decodeL l).2 ++ m := List.drop_append_of_le_length hle
        rw [runL_step _ hne2, runL_step l hne, ha, hd, i1]
        rfl
theorem runL_app {l : List UInt8} (m : List UInt8) (hv : Lib.validD l = true) : runL (l ++ m) = runL l ++ runL m := runL_append m l.length l (Nat.le_refl _) hv
theorem runes_runL (s : ByteArray) : ∀ (f pos : Nat), s.size - pos ≤ f → runes s pos = runL (s.data.toList.drop pos)
  | f, pos, h => by
    by_cases hp : pos < s.size
    · have hw := Lib.decode_width_pos s pos hp
      have hne : s.data.toList.drop pos ≠ [] := fun he => by
        have := congrArg List.length he
        rw [List.length_drop, size_list] at this
        simp at this; omega
      rw [runes_step s pos hp, runL_step _ hne, Lib.decodeL_drop, List.drop_drop]
      cases f with
      | zero => omega
      | succ f => rw [runes_runL s f _ (by omega)]
    · rw [runes_end s pos hp, List.drop_eq_nil_of_le (by rw [size_list]; omega)]; rfl
theorem chars_runL (e : Ev) : e.chars = runL e.text := by
  unfold Ev.chars
  rw [runes_runL _ _ 0 (Nat.le_refl _)]
  show runL (List.drop 0 (e.text.toArray).toList) = _
  rw [List.drop_zero, List.toList_toArray]
theorem joinTail_app (l m : List (List UInt8)) : Lib.joinTail [10] (l ++ m) = Lib.joinTail [10] l ++ Lib.joinTail [10] m := by
  induction l with
  | nil => rfl
  | cons x l ih =>
    have e : ∀ (y : List UInt8) (l : List (List UInt8)), Lib.joinTail [10] (y :: l) = [10] ++ (y ++ Lib.joinTail [10] l) := fun y l => by simp [Lib.joinTail]
    rw [List.cons_append, e, e, ih]
    simp [List.append_assoc]
/-- the event with rows put ahead of its own -/
def Ev.ahead (e : Ev) (R : List Row) : Ev := ⟨e.id, e.inn, e.out, e.region, e.kind, e.speaker, R ++ e.rows⟩
theorem ahead_chars {e : Ev} {R : List Row} {regs : List Reg} (h : (e.ahead R).err regs = 0) (hne : e.rows ≠ []) : ∃ C, (e.ahead R).chars = C ++ e.chars := by
  obtain ⟨rg, -, -, -, hr⟩ := (Ev.ok_of h).found
  have hr' : ∀ r ∈ R, 0 ≤ rowLen r := fun r hm => (hr r (List.mem_append.2 (.inl hm))).1
  rw [chars_runL, chars_runL]
  unfold Ev.text Ev.ahead
  dsimp only
  cases R with
  | nil => exact ⟨[], by simp⟩
  | cons r l =>
    cases hm : e.rows with
    | nil => exact absurd hm hne
    | cons y m =>
      obtain ⟨v1, -⟩ := row_cnt (hr' r (by simp))
      obtain ⟨v2, -⟩ := tail_cnt (l := l) (fun x hx => hr' x (by simp [hx]))
      refine ⟨runL (rowText r ++ (Lib.joinTail [10] (l.map rowText) ++ [10])), ?_⟩
      rw [← runL_app _ (valid_app v1 (valid_app v2 lf_valid))]
      congr 1
      rw [List.cons_append, List.map_cons, Lib.join_cons, List.map_append, joinTail_app, List.map_cons, Lib.join_cons]
      have e2 : Lib.joinTail [10] (rowText y :: m.map rowText) = [10] ++ (rowText y ++ Lib.joinTail [10] (m.map rowText)) := by simp [Lib.joinTail]
      rw [e2]
      simp [List.append_assoc]
def esz (r : Int) : Nat := (Utf8.encode r).size
def sz (l : List Int) : Nat := (l.map esz).sum
theorem sz_app (l m : List Int) : sz (l ++ m) = sz l + sz m := by unfold sz; rw [List.map_append, List.sum_append]
theorem sz_drop (l : List Int) (k : Nat) : sz (l.drop k) ≤ sz l := by
  have := sz_app (l.take k) (l.drop k)
  rw [List.take_append_drop] at this
  omega
theorem quoteT_sz (F T : Nat) (l : List Int) : ∀ k, k ≤ l.length → (quoteT F T (l.take k)).size = sz (((l.take k).take T).drop F)
  | 0, _ => by
    rw [List.take_zero, List.take_nil, List.drop_nil]
    rfl
  | k + 1, h => by
    have hx : l[k]? = some l[k] := List.getElem?_eq_getElem h
    have ih := quoteT_sz F T l k (by omega)
    have hlen : (l.take k).length = k := by rw [List.length_take]; omega
    rw [quoteT_take hx, take_snoc' l k _ hx]
    unfold qstep
    dsimp only
    split
    · rename_i hc
      rw [ByteArray.size_append, ih]
      rw [List.take_of_length_le (i := T) (l := l.take k ++ [l[k]]) (by rw [List.length_append, hlen]; simp; omega), List.take_of_length_le (i := T) (l := l.take k) (by omega)]
      rw [List.drop_append_of_le_length (by omega), sz_app]
      simp [sz, esz]
    · rename_i hc
      rw [ih]
      by_cases hT : T ≤ k
      · rw [List.take_append_of_le_length (l₁ := l.take k) (by omega)]
      · rw [List.drop_eq_nil_of_le (by rw [List.length_take, hlen]; omega), List.drop_eq_nil_of_le (by rw [List.length_take, List.length_append, hlen]; simp; omega)]
theorem quoteT_size' (F T : Nat) (l : List Int) : (quoteT F T l).size = sz ((l.take T).drop F) := by
  have := quoteT_sz F T l l.length (Nat.le_refl _)
  rwa [List.take_length] at this
theorem esz_pos (r : Int) : 0 < esz r := by
  unfold esz Utf8.encode
  dsimp only
  generalize (if Utf8.valid r = true then r.toNat else Utf8.runeError) = c
  split
  · exact Nat.zero_lt_one
  split
  · exact Nat.zero_lt_succ _
  split
  · exact Nat.zero_lt_succ _
  · exact Nat.zero_lt_succ _
theorem quoteT_pos {F T : Nat} {l : List Int} (h : F < T) (hT : T ≤ l.length) : 0 < (quoteT F T l).size := by
  rw [quoteT_size']
  have hne : (l.take T).drop F ≠ [] := fun he => by
    have := congrArg List.length he
    rw [List.length_drop, List.length_take] at this
    simp at this; omega
  cases hd : (l.take T).drop F with
  | nil => exact absurd hd hne
  | cons x m => have := esz_pos x; simp [sz]; omega
theorem pre_app : ∀ (u v : List Int), Mv.pre u (u ++ v) = u.length
  | [], v => rfl
  | x :: u, v => by simp [Mv.pre, pre_app u v]
theorem suf_app (a C : List Int) : Mv.suf a (C ++ a) (Mv.pre a (C ++ a)) = a.length - Mv.pre a (C ++ a) := by
  have hp := (Mv.pre_le a (C ++ a)).1
  generalize Mv.pre a (C ++ a) = p at *
  unfold Mv.suf
  have e : (C ++ a).drop p = ((C ++ a).take (C.length + p)).drop p ++ a.drop p := by
    have h1 : ((C ++ a).take (C.length + p)).drop p ++ (C ++ a).drop (C.length + p) = (C ++ a).drop p := by
      rw [← List.drop_append_of_le_length (by rw [List.length_take, List.length_append]; omega), List.take_append_drop]
    rw [← h1]
    congr 1
    rw [List.drop_append, List.drop_eq_nil_of_le (by omega)]
    simp
  rw [e, List.reverse_append, pre_app]
  simp
/-- rows put ahead: the characters of the comment all stay -/
theorem stay_size {a C : List Int} {F T : Nat} (hF : F < T) (hT : T ≤ a.length) (h1 : a.length ≤ 35184372088831) (h2 : (C ++ a).length ≤ 35184372088831) :
    ∃ F' T' : Nat, wfrom a.length (C ++ a).length (Mv.pre a (C ++ a)) (Mv.suf a (C ++ a) (Mv.pre a (C ++ a))) F = (F' : Int) ∧ wto a.length (C ++ a).length (Mv.pre a (C ++ a)) (Mv.suf a (C ++ a) (Mv.pre a (C ++ a))) T = (T' : Int) ∧ F' < T' ∧
      (quoteT F T a).size ≤ (quoteT F' T' (C ++ a)).size := by
  rw [suf_app]
  have hp := (Mv.pre_le a (C ++ a)).1
  have heq : ∀ k, k ≤ Mv.pre a (C ++ a) → a.take k = (C ++ a).take k := fun k hk => by
    apply List.ext_getElem?
    intro i
    rw [List.getElem?_take, List.getElem?_take]
    split
    · exact Mv.pre_eq a (C ++ a) i (by omega)
    · rfl
  generalize Mv.pre a (C ++ a) = p at *
  rw [wfrom_eq h1 h2 (by omega) (by omega), wto_eq h1 h2 (by omega) (by omega)]
  have hlen : (C ++ a).length = C.length + a.length := List.length_append
  have hkt : (C ++ a).take (C.length + T) = C ++ a.take T := by
    rw [List.take_append, List.take_of_length_le (by omega)]
    congr 2
    omega
  have hdr : ∀ k, (C ++ a.take T).drop (C.length + k) = (a.take T).drop k := fun k => by
    rw [List.drop_append, List.drop_eq_nil_of_le (by omega)]
    simp
  by_cases c1 : T ≤ p
  · refine ⟨F, T, by rw [if_neg (by omega), if_pos (by omega)], by rw [if_pos (by omega)], hF, ?_⟩
    rw [quoteT_size', quoteT_size', heq T c1]
    exact Nat.le_refl _
  by_cases c2 : p ≤ F
  · refine ⟨C.length + F, C.length + T, by rw [if_pos (by omega), hlen]; omega, by rw [if_neg (by omega), if_pos (by omega), hlen]; omega, by omega, ?_⟩
    rw [quoteT_size', quoteT_size', hkt, hdr]
    exact Nat.le_refl _
  · refine ⟨F, C.length + T, by rw [if_neg (by omega), if_pos (by omega)], by rw [if_neg (by omega), if_pos (by omega), hlen]; omega, by omega, ?_⟩
    rw [quoteT_size', quoteT_size', hkt]
    have split1 : ∀ l : List Int, p ≤ l.length → l.drop F = (l.take p).drop F ++ l.drop p := fun l hl => by
      rw [← List.drop_append_of_le_length (by rw [List.length_take]; omega), List.take_append_drop]
    have hl1 : (a.take T).length = T := by rw [List.length_take]; omega
    rw [split1 (a.take T) (by omega), split1 (C ++ a.take T) (by rw [List.length_append]; omega), sz_app, sz_app]
    have e1 : (a.take T).take p = (C ++ a.take T).take p := by
      rw [List.take_take, Nat.min_eq_left (by omega), ← hkt, List.take_take, Nat.min_eq_left (by omega)]
      exact heq p (Nat.le_refl _)
    have e2 := sz_drop ((C ++ a.take T).drop p) C.length
    rw [List.drop_drop, show p + C.length = C.length + p by omega, hdr] at e2
    rw [e1]
    omega
end Go.Proofs.YtagfedbdakmlgaaGreatDoor

/-! StayD -/
namespace Go.Proofs.YtagfedbdakmlgaaGreatDoor
set_option linter.unusedVariables false
set_option linter.unusedSimpArgs false
open Go.RowKit
section
variable {d : Doc} {ev fr til : Int} {au tx : ByteArray}
theorem addErr_ok (h : d.addErr ev fr til au tx = 0) : d.err = 0 ∧ (∃ k e, findE d.evs ev = some k ∧ d.evs[k]? = some e ∧ 0 ≤ fr ∧ fr < til ∧ til ≤ e.len) ∧ nameB au = true ∧ vld tx = true ∧ tx.toList.isEmpty = false ∧ tx.size ≤ 400 ∧ d.coms.length < 64 ∧ d.last < 1099511627776 := by
  unfold Doc.addErr at h
  by_cases h1 : d.err = 0
  case neg => rw [if_pos h1] at h; exact absurd h h1
  rw [if_neg (by simpa using h1)] at h
  cases hk : findE d.evs ev with
  | none => rw [hk] at h; simp at h
  | some k =>
    rw [hk] at h
    dsimp only at h
    obtain ⟨e, he, -, -⟩ := findE_mem hk
    rw [he] at h
    simp only [Option.map_some, Option.some.injEq, decide_eq_true_eq] at h
    split at h
    · simp at h
    rename_i h2
    split at h
    · simp at h
    rename_i h3
    split at h
    · simp at h
    rename_i h4
    split at h
    · simp at h
    rename_i h5
    split at h
    · simp at h
    rename_i h6
    exact ⟨h1, ⟨k, e, rfl, he, by omega, by omega, by omega⟩, by simpa using h3, by simpa using h4, by simpa using h5, by omega, by omega, by omega⟩
theorem add_v (h : d.addErr ev fr til au tx = 0) : DocV (d.addD ev fr til au tx) := by
  obtain ⟨h1, ⟨k, e, hk, he, f1, f2, f3⟩, h3, h4, h5, h6, h7, h8⟩ := addErr_ok h
  have hv := doc_v h1
  have hlast := (head_ok' hv.head).2.2.2.2
  obtain ⟨e', he', hem, hei⟩ := findE_mem hk
  rw [he] at he'
  cases he'
  have hel := hv.evs.each e hem
  have heid := (ev_ok hel.1).1
  refine ⟨head_lastV hv.head rfl rfl rfl rfl (by show 0 ≤ d.last + 1; omega) (by show d.last + 1 ≤ _; omega), hv.regs, hv.en, ⟨fun x hx => ⟨(hv.evs.each x hx).1, by have := (hv.evs.each x hx).2; show x.id ≤ d.last + 1; omega⟩, hv.evs.srt, hv.evs.ids⟩, by show (d.coms ++ [_]).length ≤ 64; rw [List.length_append]; simp; omega, fun c hc => ?_, ?_⟩
  · rcases List.mem_append.1 hc with hc | hc
    · exact (hv.coms.each c hc).mono (by show d.last ≤ d.last + 1; omega) (hv.coms.each c hc).free fun x hx _ => ⟨x, hx, rfl, rfl⟩
    · rw [List.mem_singleton] at hc
      subst hc
      refine ⟨by show 1 ≤ d.last + 1; omega, Int.le_refl _, fun x hx => ?_, by show 1 ≤ ev; omega, by show ev ≤ d.last + 1; omega, fun hl => (by cases hl), fun _ => ⟨e, hem, hei, f1, f2, f3⟩, h3, h4, h5, h6⟩
      have := (hv.evs.each x hx).2
      show x.id ≠ d.last + 1
      omega
  · show (d.coms ++ [_]).Pairwise _
    refine pair_snoc hv.coms.srt fun c hc => ?_
    have := (hv.coms.each c hc).id2
    show c.id < d.last + 1
    omega
theorem add_fit (hf : DocFit d) (h : d.addErr ev fr til au tx = 0) (ha : au.size ≤ 9223372036854775807) : DocFit (d.addD ev fr til au tx) := by
  refine fit_of hf (add_v h) rfl rfl rfl rfl (fun x hx => hf.evs x hx) fun c hc => ?_
  rcases List.mem_append.1 hc with hc | hc
  · exact (hf.coms c hc).2.2
  · rw [List.mem_singleton] at hc
    subst hc
    have := (addErr_ok h).2.2.2.2.2.1
    exact ⟨ha, by show tx.size ≤ _; omega⟩
/-- the new comment -/
def newC (d : Doc) (ev fr til : Int) (au tx : ByteArray) : Com := ⟨d.last + 1, ev, fr, til, au, tx, false, false⟩
theorem add_free (h : d.addErr ev fr til au tx = 0) : findC d.coms (d.last + 1) = none := by
  have hv := doc_v (addErr_ok h).1
  refine List.findIdx?_eq_none_iff.2 fun c hc => ?_
  have := (hv.coms.each c hc).id2
  have : c.id ≠ d.last + 1 := by omega
  simpa using this
theorem map_find {f : Com → Com} (hf : ∀ c, (f c).id = c.id) (l : List Com) (id : Int) : findC (l.map f) id = findC l id := by
  unfold findC
  rw [List.findIdx?_map]
  congr 1
  funext c
  simp [hf]
theorem add_find (h : d.addErr ev fr til au tx = 0) : findC (d.addD ev fr til au tx).coms (d.last + 1) = some d.coms.length := by
  show findC (d.coms ++ [_]) _ = _
  rw [findC_snoc, add_free h]
  simp
theorem add_get : (d.addD ev fr til au tx).coms[d.coms.length]? = some (newC d ev fr til au tx) := by
  show (d.coms ++ [_])[d.coms.length]? = _
  rw [List.getElem?_append_right (Nat.le_refl _), Nat.sub_self]
  rfl
/-- the new comment's characters -/
theorem stay_was (hf : DocFit d) (h : d.addErr ev fr til au tx = 0) : (d.addD ev fr til au tx).err = 0 ∧ ∃ (k : Nat) (e : Ev), findI d.evs ev = (k : Int) ∧ d.evs[k]? = some e ∧ e.id = ev ∧ e.err d.regs = 0 ∧ (d.addD ev fr til au tx).quX (d.last + 1) = (quoteT fr til e.chars, 0) ∧ 0 < (quoteT fr til e.chars).size ∧ 0 ≤ fr ∧ fr < til ∧ til ≤ (e.chars.length : Int) ∧ findE d.evs ev = some k := by
  obtain ⟨h1, ⟨k, e, hk, he, f1, f2, f3⟩, -⟩ := addErr_ok h
  have hv := doc_v h1
  obtain ⟨e', he', hem, hei⟩ := findE_mem hk
  rw [he] at he'
  cases he'
  have hee := (hv.evs.each e hem).1
  have hlen := len_chars hee
  have hA := (add_v h).ok
  refine ⟨hA, k, e, by unfold findI; rw [hk], he, hei, hee, qu_4 hA (add_find h) add_get rfl (show findE d.evs ev = some k from hk) he, ?_, f1, f2, by omega, hk⟩
  obtain ⟨F, rfl⟩ : ∃ F : Nat, fr = (F : Int) := ⟨fr.toNat, by omega⟩
  obtain ⟨T, rfl⟩ : ∃ T : Nat, til = (T : Int) := ⟨til.toNat, by omega⟩
  exact quoteT_pos (by omega) (by omega)
/-- with rows put ahead -/
theorem stay_put {R : List Row} {e : Ev} {k : Nat} (hf : DocFit d) (h : d.addErr ev fr til au tx = 0) (hau : au.size ≤ 9223372036854775807) (hk : findE d.evs ev = some k) (he : d.evs[k]? = some e) (hes : EvSmall (e.ahead R)) (hby : (e.ahead R).bytes ≤ 1099511627776)
    (hp : ((d.addD ev fr til au tx).putX (e.ahead R)).2 = 0) :
    findCI ((d.addD ev fr til au tx).putX (e.ahead R)).1.coms (d.last + 1) = (d.coms.length : Int) ∧ (∃ c, ((d.addD ev fr til au tx).putX (e.ahead R)).1.coms[d.coms.length]? = some c ∧ c.lost = false) ∧
      (((d.addD ev fr til au tx).putX (e.ahead R)).1.quX (d.last + 1)).2 = 0 ∧ (quoteT fr til e.chars).size ≤ (((d.addD ev fr til au tx).putX (e.ahead R)).1.quX (d.last + 1)).1.size := by
  obtain ⟨hA, k0, e0, -, he0, hei, hee, -, -, f1, f2, f3, hk0⟩ := stay_was hf h
  rw [hk] at hk0
  cases hk0
  rw [he] at he0
  cases he0
  obtain ⟨hB, -, -, -⟩ := val_put (add_fit hf h hau) hes hby hp
  obtain ⟨-, hnew, k1, x1, g1, g2, hput⟩ := putX_ok hp
  have g1' : findE d.evs ev = some k1 := by rw [← hei]; exact g1
  rw [hk] at g1'
  cases g1'
  have g2' : d.evs[k]? = some x1 := g2
  rw [he] at g2'
  cases g2'
  rw [hput] at hB ⊢
  dsimp only at hB ⊢
  have hcoms : ((d.addD ev fr til au tx).putD (e.ahead R) e k).coms = (d.addD ev fr til au tx).coms.map (Com.onto (e.ahead R).id e.chars (e.ahead R).chars) := rfl
  have hfind : findC ((d.addD ev fr til au tx).putD (e.ahead R) e k).coms (d.last + 1) = some d.coms.length := by
    rw [hcoms, map_find (onto_ids _ _ _)]
    exact add_find h
  have hne : e.rows ≠ [] := fun h0 => by
    have := (Ev.ok_of hee).some_
    rw [h0] at this
    exact absurd rfl this
  obtain ⟨C, hC⟩ := ahead_chars hnew hne
  have hget : ((d.addD ev fr til au tx).putD (e.ahead R) e k).coms[d.coms.length]? = some ((newC d ev fr til au tx).fol e.chars (e.ahead R).chars) := by
    rw [hcoms, List.getElem?_map, add_get]
    show some (Com.onto _ _ _ _) = _
    unfold Com.onto
    rw [if_pos (show (newC d ev fr til au tx).ev = (e.ahead R).id from hei.symm)]
  obtain ⟨F, rfl⟩ : ∃ F : Nat, fr = (F : Int) := ⟨fr.toNat, by omega⟩
  obtain ⟨T, rfl⟩ : ∃ T : Nat, til = (T : Int) := ⟨til.toNat, by omega⟩
  have hb1 := chars_le hee (hf.evs e (List.mem_of_getElem? he)).2
  have hb2 := chars_le hnew hby
  rw [hC] at hb2
  obtain ⟨F', T', e1, e2, e3, e4⟩ := stay_size (a := e.chars) (C := C) (F := F) (T := T) (by omega) (by omega) hb1 hb2
  have hfol : (newC d ev F T au tx).fol e.chars (e.ahead R).chars = ⟨d.last + 1, ev, (F' : Int), (T' : Int), au, tx, false, false⟩ := by
    unfold Com.fol
    rw [if_neg (show ¬ (newC d ev F T au tx).lost = true from fun hh => Bool.noConfusion (show false = true from hh)), hC]
    show Com.moved _ (wfrom _ _ _ _ (F : Int)) (wto _ _ _ _ (T : Int)) = _
    rw [e1, e2]
    unfold Com.moved
    rw [if_neg (by omega)]
    rfl
  rw [hfol] at hget
  have hmem : e.ahead R ∈ ((d.addD ev F T au tx).putD (e.ahead R) e k).evs := (srtE_perm _).mem_iff.2 (set_self_mem (l := d.evs) he)
  obtain ⟨m, hm1, hm2⟩ := mem_findE (doc_v hB).evs.ids hmem
  have hm1' : findE ((d.addD ev F T au tx).putD (e.ahead R) e k).evs ev = some m := by rw [← hei]; exact hm1
  have hq := qu_4 hB hfind hget rfl hm1' hm2
  refine ⟨by unfold findCI; rw [hfind], ⟨_, hget, rfl⟩, by rw [hq], ?_⟩
  rw [hq]
  show _ ≤ (quoteT F' T' (e.ahead R).chars).size
  rw [hC]
  exact e4
theorem gone_lose (id : Int) : ∀ l : List Com, (openL (l.map (Com.lose id))).length ≤ (openL l).length
  | [] => Nat.le_refl _
  | c :: l => by
    have ih := gone_lose id l
    unfold openL at ih ⊢
    rw [List.map_cons, List.filter_cons, List.filter_cons]
    by_cases hg : c.gone = true
    · have h2 : (c.lose id).gone = true := by
        unfold Com.lose
        split
        · simp [Com.gone]
        · exact hg
      rw [hg, h2]
      simpa using ih
    · have h1 : c.gone = false := by simpa using hg
      rw [h1]
      simp only [Bool.not_false, if_true, List.length_cons]
      split
      · simp only [List.length_cons]; omega
      · omega
/-- with the event away -/
theorem stay_rem (hf : DocFit d) (h : d.addErr ev fr til au tx = 0) :
    ((d.addD ev fr til au tx).remX ev).2 = 0 ∧ findCI ((d.addD ev fr til au tx).remX ev).1.coms (d.last + 1) = (d.coms.length : Int) ∧ (∃ c, ((d.addD ev fr til au tx).remX ev).1.coms[d.coms.length]? = some c ∧ c.lost = true) ∧
      ((d.addD ev fr til au tx).remX ev).1.opn.length + 1 ≤ (d.addD ev fr til au tx).opn.length := by
  obtain ⟨hA, k, e, -, he, hei, hee, -, -, -, -, -, hk⟩ := stay_was hf h
  have hr := rem_3 (d := d.addD ev fr til au tx) hA (show findE d.evs ev = some k from hk)
  have hB := (rem_v (d := d.addD ev fr til au tx) hA (show findE d.evs ev = some k from hk)).ok
  rw [hr]
  dsimp only
  have hcoms : (((d.addD ev fr til au tx).cutE k).withComs ((d.addD ev fr til au tx).coms.map (Com.lose ev))).coms = (d.addD ev fr til au tx).coms.map (Com.lose ev) := rfl
  refine ⟨rfl, ?_, ?_, ?_⟩
  · unfold findCI
    rw [hcoms, map_find (lose_id ev), add_find h]
  · refine ⟨(newC d ev fr til au tx).lose ev, by rw [hcoms, List.getElem?_map, add_get]; rfl, ?_⟩
    unfold Com.lose
    rw [if_pos (show (newC d ev fr til au tx).ev = ev from rfl)]
  · have e1 : ∀ D : Doc, D.err = 0 → D.opn.length = (openL D.coms).length := fun D hD => by
      unfold Doc.opn
      rw [if_neg (by simpa using hD), List.length_map, (srtC_perm _ _).length_eq]
    rw [e1 _ hB, e1 _ hA, hcoms]
    show (openL ((d.coms ++ [newC d ev fr til au tx]).map (Com.lose ev))).length + 1 ≤ (openL (d.coms ++ [newC d ev fr til au tx])).length
    have hl : (newC d ev fr til au tx).lose ev = ⟨d.last + 1, ev, 0, 0, au, tx, false, true⟩ := by
      unfold Com.lose
      rw [if_pos (show (newC d ev fr til au tx).ev = ev from rfl)]
      rfl
    have h0 := gone_lose ev d.coms
    rw [List.map_append, List.map_cons, List.map_nil, hl]
    unfold openL at h0 ⊢
    rw [List.filter_append, List.filter_append, List.length_append, List.length_append]
    simp only [newC, Com.gone, List.filter_cons, List.filter_nil, Bool.or_true, Bool.or_false, Bool.not_true, Bool.not_false, if_true, Bool.false_eq_true, if_false, List.length_nil, List.length_cons] at h0 ⊢
    omega
end
end Go.Proofs.YtagfedbdakmlgaaGreatDoor

/-! OpenW -/
namespace Go.Proofs.YtagfedbdakmlgaaGreatDoor
set_option linter.unusedVariables false
set_option linter.unusedSimpArgs false
open Go.RowKit Go.ChangeShapes Go.WideShapes Go.ChangeAt
set_option maxRecDepth 100000
/-- an argument that is a document, of small bulk -/
theorem argB_doc {H : Type} {enc : TypeId × Value → H} {W : World} {base : Nat} {v : Value} {d : DataW H} {p : List MemPlace} (hv : Value.okWide Tryz.prog W .any base 27 v) (h : DataW.Trod enc Tryz.prog W 0 (fun _ => true) true 27 v d p)
    (hw : ∀ n ∈ d.weights Tryz.prog 27, n ≤ reachBytes) (hk : Rows.uptoBulk d ≤ 1048576) : ∃ d' h', v = .agg (Doc.cells d' h') ∧ DocAt W d' h' ∧ DocIn d' h' ∧ ∀ e ∈ d'.evs, e.bulk ≤ 1048576 := by
  obtain ⟨cs, rfl⟩ := agg_of_cells Tryz.underlying27 hv
  obtain ⟨fuel, h⟩ := h
  obtain ⟨hl, ks, hks, hkl, hf⟩ := OpensK.fields Tryz.underlying27 h hw
  rw [cells_document] at hl
  obtain ⟨v0, v1, v2, v3, v4, v5, v6, v7, he⟩ := list_8 hl
  obtain ⟨k0, k1, k2, k3, k4, k5, k6, k7, rfl⟩ := list_8 (show ks.length = 8 from hkl)
  obtain ⟨a0, h0, s0⟩ := hf 0 _ rfl (OpensK.string Tryz.underlying9)
  obtain ⟨a1, h1, s1⟩ := hf 1 _ rfl (OpensK.string Tryz.underlying9)
  obtain ⟨a2, h2, s2⟩ := hf 2 _ rfl (.of (Opens.int Tryz.underlying22))
  obtain ⟨a3, h3⟩ := hf 3 _ rfl (.of (Opens.bool Tryz.underlying4))
  obtain ⟨a4, h4, s4⟩ := hf 4 _ rfl (.of (Opens.int Tryz.underlying2))
  obtain ⟨⟨regs, A5, n5, c5⟩, h5, r5, r6, r7, r8⟩ := hf 5 _ rfl (R := fun k cs (r : List Reg × Option Addr × Nat × Nat) => cs = [.slice r.2.1 r.2.2.1 r.2.2.2] ∧ r.2.2.1 ≤ r.2.2.2 ∧ r.2.2.1 * 56 ≤ 140737488355328 ∧ RegsAt W r.2.1 r.2.2.1 r.1 ∧ RegsSmall r.1) (fun H enc fuel cs x h hw => by
    obtain ⟨A, n, c, l, hc, hnc, hcm, hb, hs⟩ := Opens.slice Tryz.underlying23 cells_region (by decide) bytes_region (open_region W) h hw
    refine ⟨(l, A, n, c), hc, hnc, (show n * 56 ≤ 140737488355328 by simp only [reachBytes] at hb; omega), Sl.change (D := RegC) hs fun b o r hm => ?_, show ∀ r ∈ l, r.name.size ≤ 9223372036854775807 from hs.all (p := fun r : Reg => r.name.size ≤ 9223372036854775807) fun b o r hm => ?_⟩
    · obtain ⟨cs, h1, h2, _⟩ := hm
      subst h2
      exact ⟨h1 0 _ rfl, h1 1 _ rfl, h1 2 _ rfl, h1 3 _ rfl, h1 4 _ rfl, h1 5 _ rfl, h1 6 _ rfl⟩
    · obtain ⟨cs, _, _, h3⟩ := hm
      omega)
  obtain ⟨⟨evs, A6, n6, c6⟩, h6, e5, e6, e7, e8⟩ := hf 6 _ rfl (R := fun k cs (r : List Ev × Option Addr × Nat × Nat) => cs = [.slice r.2.1 r.2.2.1 r.2.2.2] ∧ r.2.2.1 ≤ r.2.2.2 ∧ r.2.2.1 * 2 ≤ k ∧ EvsAt W r.2.1 r.2.2.1 r.1 ∧ ∀ e ∈ r.1, e.bulk ≤ k ∧ e.Nums) (fun H enc fuel cs x h hw => by
    obtain ⟨A, n, c, l, hc, hnc, hcm, hb, hs, hk⟩ := OpensK.slice Tryz.underlying24 cells_event (by decide) bytes_event (openK_event2 W) h hw
    have hall := hs.all (p := fun p : Ev × Nat => p.1.bulk + 2 ≤ p.2 ∧ p.1.Nums) (fun b o q hm => by obtain ⟨_, _, _, h3, h4⟩ := hm; exact ⟨h3, h4⟩)
    have h2 := sum_ge (n := 2) (l := l) (fun p hp => by have := (hall p hp).1; omega)
    have hln : l.length = n := hs.len
    refine ⟨(l.map (fun p : Ev × Nat => p.1), A, n, c), hc, hnc, (show n * 2 ≤ _ by omega), Sl.mapK (D := EvC) hs fun b o p hm => ?_, fun e he => ?_⟩
    · obtain ⟨cs, h1, ⟨A', n', c', h2, h3⟩, _⟩ := hm
      subst h2
      exact ⟨A', n', c', h1, h3⟩
    · obtain ⟨p, hp, rfl⟩ := List.mem_map.1 he
      have h3 := hall p hp
      have h4 := mem_le hp
      exact ⟨by omega, h3.2⟩)
  obtain ⟨⟨coms, A7, n7, c7⟩, h7, m5, m6, m7, m8⟩ := hf 7 _ rfl (R := fun k cs (r : List Com × Option Addr × Nat × Nat) => cs = [.slice r.2.1 r.2.2.1 r.2.2.2] ∧ r.2.2.1 ≤ r.2.2.2 ∧ r.2.2.1 * 2 ≤ k ∧ ComsAt W r.2.1 r.2.2.1 r.1 ∧ ∀ c ∈ r.1, c.author.size + c.text.size ≤ k ∧ c.Nums) (fun H enc fuel cs x h hw => by
    obtain ⟨A, n, c, l, hc, hnc, hcm, hb, hs, hk⟩ := OpensK.slice Tryz.underlying25 cells_comment (by decide) bytes_comment (openK_com W) h hw
    have hall := hs.all (p := fun p : Com × Nat => p.1.author.size + p.1.text.size + 2 ≤ p.2 ∧ p.1.Nums) (fun b o q hm => by obtain ⟨_, _, _, h3, h4⟩ := hm; exact ⟨h3, h4⟩)
    have h2 := sum_ge (n := 2) (l := l) (fun p hp => by have := (hall p hp).1; omega)
    have hln : l.length = n := hs.len
    refine ⟨(l.map (fun p : Com × Nat => p.1), A, n, c), hc, hnc, (show n * 2 ≤ _ by omega), Sl.mapK (D := Cells Com.vals) hs fun b o p hm => ?_, fun e he => ?_⟩
    · obtain ⟨cs, h1, h2, _⟩ := hm
      subst h2
      exact h1
    · obtain ⟨p, hp, rfl⟩ := List.mem_map.1 he
      have h3 := hall p hp
      have h4 := mem_le hp
      exact ⟨by omega, h3.2⟩)
  rw [he] at h0 h1 h2 h3 h4 h5 h6 h7
  simp [cells_string, cells_bool, cells_int64, cells_rateD, cells_regs, cells_evts, cells_coms] at h0 h1 h2 h3 h4 h5 h6 h7 s0 s1 e6 e8 m6 m8 hks
  have n2 := bounds_u8 s2
  subst h0 h1 h2 h3 h4 h5 h6 h7
  dsimp only at *
  refine ⟨⟨a0, a1, a2, a3, a4, regs, evs, coms⟩, ⟨A5, n5, c5, A6, n6, c6, A7, n7, c7⟩, ?_, ⟨r7, e7, m7⟩, ⟨⟨⟨n2.1, n2.2, by simp only; omega, by simp only; omega⟩, r8, fun e hm => ev_small (by have := (e8 e hm).1; omega), fun e hm => (e8 e hm).2.1, fun c hm => ⟨(m8 c hm).2.1, (m8 c hm).2.2.1, by have := (m8 c hm).1; omega, by have := (m8 c hm).1; omega⟩⟩, fun e hm => (e8 e hm).2, fun c hm => (m8 c hm).2, bounds_i64 s4, by simp only; omega, by simp only; omega, by simp only; omega, ⟨r5, r6⟩, e5, m5⟩, fun e hm => by have := (e8 e hm).1; omega⟩
  have : cs = (Doc.cells ⟨a0, a1, a2, a3, a4, regs, evs, coms⟩ ⟨A5, n5, c5, A6, n6, c6, A7, n7, c7⟩) := Array.toList_inj.1 he
  rw [this]
theorem openK_row2 (W : World) : OpensK Tryz.prog W 87 (fun k cs (r : Row) => (∃ A n c, cs = [.slice A n c] ∧ n ≤ c ∧ n * 40 ≤ 140737488355328 ∧ RunsAt W A n r) ∧ rowBulk r + 1 ≤ k) := by
  intro H enc fuel cs x h hw
  obtain ⟨hl, ks, hks, hkl, hf⟩ := OpensK.fields Tryz.underlying87 h hw
  rw [cells_row] at hl
  obtain ⟨v0, rfl⟩ := list_1 hl
  obtain ⟨k0, rfl⟩ := list_1 (show ks.length = 1 from hkl)
  obtain ⟨r, h0, hb⟩ := hf 0 _ rfl (R := fun k cs (r : Row) => (∃ A n c, cs = [.slice A n c] ∧ n ≤ c ∧ n * 40 ≤ 140737488355328 ∧ RunsAt W A n r) ∧ rowBulk r + 1 ≤ k) (fun H enc fuel cs x h hw => by
    obtain ⟨A, n, c, l, rfl, hnc, _, hb, hs, hk⟩ := OpensK.slice Tryz.underlying85 cells_run (by decide) bytes_run (openK_run W) h hw
    have hn : n * 40 ≤ 140737488355328 := by simp only [reachBytes] at hb; omega
    refine ⟨l.map (fun p : Run × Nat => p.1), ⟨A, n, c, rfl, hnc, hn, Sl.mapK (D := RunC) hs fun b o p hm => ?_⟩, ?_⟩
    · obtain ⟨cs, h1, h2, _⟩ := hm
      subst h2
      exact ⟨h1 0 _ rfl, h1 1 _ rfl, h1 2 _ rfl, h1 3 _ rfl, h1 4 _ rfl⟩
    · have := sum_le_of (f := runBulk) (l := l) (fun p hp => by
        have := hs.all (p := fun p => runBulk p.1 ≤ p.2) (fun b o q hm => by obtain ⟨_, _, _, h3⟩ := hm; exact h3) p hp
        exact this)
      unfold rowBulk
      omega)
  simp [cells_runs] at h0 hb hks
  exact ⟨r, by simpa using h0, by omega⟩
theorem bytes_rowsBulk : ∀ l : List Row, (l.map rowBytes).sum ≤ rowsBulk l := fun l => by
  unfold rowsBulk
  induction l with
  | nil => simp
  | cons y l ih => have := rowBytes_le y; simp only [List.map_cons, List.sum_cons]; omega
theorem row_small {r : Row} (h : rowBulk r ≤ 1048576) : RowSmall r := by
  refine ⟨?_, fun x hx => ?_⟩
  · have h2 := rowBytes_le r
    omega
  · have h2 := le_sum (f := runBulk) hx
    unfold rowBulk at h
    have h3 : runBulk x = x.text.size + x.ruby.size := rfl
    omega
/-- an argument that is a list of rows, of small bulk -/
theorem argK_rows {H : Type} {enc : TypeId × Value → H} {W : World} {base : Nat} {v : Value} {d : DataW H} {p : List MemPlace} (hv : Value.okWide Tryz.prog W .any base 64 v) (h : DataW.Trod enc Tryz.prog W 0 (fun _ => true) true 64 v d p)
    (hw : ∀ n ∈ d.weights Tryz.prog 64, n ≤ reachBytes) (hk : Rows.uptoBulk d ≤ 1048576) : ∃ A n c R, v = .slice A n c ∧ n ≤ c ∧ n ≤ 1048576 ∧ RowsAt W A n R ∧ rowsBulk R ≤ 1048576 := by
  obtain ⟨fuel, h⟩ := h
  obtain ⟨A, n, c, l, hc, hnc, _, hb, hs, hk2⟩ := OpensK.slice Tryz.underlying64 cells_row (by decide) bytes_row (openK_row2 W) h hw
  have hv' : v = .slice A n c := by
    unfold Value.okWide at hv
    rw [Tryz.underlying64] at hv
    cases v <;> simp [Value.cells] at hc <;> first | (obtain ⟨h1, h2, h3⟩ := hc; subst h1 h2 h3; rfl) | (simp [Cell.okWide, Tryz.underlying64, Cell.ok] at hv)
  dsimp only at hk2
  have hall := hs.all (p := fun p : Row × Nat => rowBulk p.1 + 1 ≤ p.2) (fun b o q hm => by obtain ⟨_, _, _, h3⟩ := hm; exact h3)
  have h2 := sum_ge (n := 1) (l := l) (fun p hp => by have := hall p hp; omega)
  have hln : l.length = n := hs.len
  have hn : n ≤ 1048576 := by omega
  refine ⟨A, n, c, l.map (fun p : Row × Nat => p.1), hv', hnc, hn, Sl.mapK (D := RowC) hs fun b o p hm => ?_, ?_⟩
  · obtain ⟨cs, h1, ⟨A', n', c', h2, h3⟩, _⟩ := hm
    subst h2
    exact ⟨A', n', c', h1 0 _ rfl, h3⟩
  · have := sum_le_of (f := rowBulk) (l := l) (fun p hp => by have := hall p hp; omega)
    unfold rowsBulk
    omega
theorem ahead_small {e : Ev} {R : List Row} (he : e.bulk ≤ 1048576) (hR : rowsBulk R ≤ 1048576) : EvSmall (e.ahead R) ∧ (e.ahead R).bytes ≤ 1099511627776 := by
  have h0 := ev_small he
  refine ⟨⟨h0.1.1, h0.1.2.1, fun r hr => ?_⟩, ?_⟩
  · rcases List.mem_append.1 hr with hr | hr
    · have := le_sum (f := rowBulk) hr
      unfold rowsBulk at hR
      exact row_small (by omega)
    · exact h0.1.2.2 r hr
  · have h1 := bytes_rowsBulk R
    have h2 := bytes_rowsBulk e.rows
    unfold Ev.bulk at he
    unfold Ev.bytes Ev.ahead
    simp only [List.map_append, List.sum_append]
    omega
end Go.Proofs.YtagfedbdakmlgaaGreatDoor

/-! StayF -/
namespace Go.Proofs.YtagfedbdakmlgaaGreatDoor
set_option linter.unusedVariables false
set_option linter.unusedSimpArgs false
open Go.RowKit
structure StayF (D : Doc) (I ev : Int) (R : List Row) (k N : Nat) (e : Ev) (Q : ByteArray) : Prop where
  ok : D.err = 0
  fit : DocFit D
  fi : findI D.evs ev = (k : Int)
  get : D.evs[k]? = some e
  qu : D.quX I = (Q, 0)
  qne : Q ≠ ⟨#[]⟩
  qsz : Q.size ≤ 140737488355324
  eid : e.id = ev
  few : e.rows.length ≤ 1000000
  put : EvSmall (e.ahead R) → (e.ahead R).bytes ≤ 1099511627776 → (D.putX (e.ahead R)).2 = 0 → findCI (D.putX (e.ahead R)).1.coms I = (N : Int) ∧ (∃ c, (D.putX (e.ahead R)).1.coms[N]? = some c ∧ c.lost = false) ∧ ((D.putX (e.ahead R)).1.quX I).2 = 0 ∧ Q.size ≤ ((D.putX (e.ahead R)).1.quX I).1.size ∧ DocFit (D.putX (e.ahead R)).1 ∧ (D.putX (e.ahead R)).1.err = 0
  rem : (D.remX ev).2 = 0 ∧ findCI (D.remX ev).1.coms I = (N : Int) ∧ (∃ c, (D.remX ev).1.coms[N]? = some c ∧ c.lost = true) ∧ (D.remX ev).1.opn.length + 1 ≤ D.opn.length ∧ DocFit (D.remX ev).1 ∧ (D.remX ev).1.err = 0
theorem stay_all {d : Doc} {ev fr til : Int} {au tx : ByteArray} (R : List Row) (hf : DocFit d) (hz : d.addErr ev fr til au tx = 0) (hau : au.size ≤ 9223372036854775807) : ∃ k N e Q, e ∈ d.evs ∧ StayF (d.addD ev fr til au tx) (d.last + 1) ev R k N e Q := by
  obtain ⟨hA, k, e, hfi, hek, hei, hee, hq, hq0, f1, f2, f3, hk⟩ := stay_was hf hz
  have hm := List.mem_of_getElem? hek
  have hfD := add_fit hf hz hau
  have hr := stay_rem hf hz
  have hvr := val_rem hfD hr.1
  have hcl := chars_le hee (hf.evs e hm).2
  have hqs := quoteT_size fr til e.chars e.chars.length (Nat.le_refl _)
  rw [List.take_length] at hqs
  refine ⟨k, d.coms.length, e, quoteT fr til e.chars, hm, hA, hfD, hfi, hek, hq, fun h => ?_, by omega, hei, by have := (Ev.ok_of hee).few; omega, fun hes hby hp => ?_, hr.1, hr.2.1, hr.2.2.1, hr.2.2.2, hvr.2.2.1, hvr.1⟩
  · rw [h] at hq0
    exact absurd hq0 (by decide)
  · obtain ⟨p1, p2, p3, p4⟩ := stay_put (R := R) hf hz hau hk hek hes hby hp
    have hvp := val_put hfD hes hby hp
    exact ⟨p1, p2, p3, p4, hvp.2.2.1, hvp.1⟩
end Go.Proofs.YtagfedbdakmlgaaGreatDoor

/-! ChainG -/
namespace Go.Proofs.YtagfedbdakmlgaaGreatDoor
set_option linter.unusedVariables false
set_option linter.unusedSimpArgs false
open Go.RowKit
/-- an operation's guard is one of the known ones, on a slot that it waits for and that the chain does not write -/
def guardB (ops : Array Oper) (chain : List Nat) (gl : List (Nat × Bool)) (o : Oper) : Bool :=
  match o.guard with
  | none => true
  | some g => gl.contains g && edgeB o g.1 && (dstO ops g.1).isSome && !chain.contains g.1
theorem want_g {ops : Array Oper} {chain : List Nat} {gl : List (Nat × Bool)} {pv us : List Value} {a0 a : Act} {o : Oper} {A B : Prop} (hg : guardB ops chain gl o = true) (hgl : ∀ g ∈ gl, pv[g.1]? = some (.bool g.2)) (hF : Finds ops chain pv us a0 a o) (h : A) : if Region.wanted o (yielded ops a.tmps) = true then A else B := by
  unfold guardB at hg
  cases hgd : o.guard with
  | none => exact want_none hgd h
  | some g =>
    rw [hgd] at hg
    simp only [Bool.and_eq_true, Bool.not_eq_true'] at hg
    obtain ⟨⟨⟨h1, h2⟩, h3⟩, h4⟩ := hg
    obtain ⟨s, hs⟩ := Option.isSome_iff_exists.1 h3
    have hv := hF.pure g.1 s _ h2 hs h4 (hgl g (by simpa using h1))
    exact want_yes (k := g.1) (b := g.2) hgd hs hv (by simp) h
theorem wp_region_linksG {P : Program} {ops : Array Oper} {Q : Exit → Act → World → Prop} {id : Nat} {a0 : Act} {W : World} (gl : List (Nat × Bool)) (slots : List (Option Nat)) (deps : List (List Nat)) (chain : List Nat) (pv : List Value) (J : List Value → World → Prop) (hgl : ∀ g ∈ gl, pv[g.1]? = some (.bool g.2)) (hm : P.follows .mixedOrders = true) (hdst : dstOK2 ops a0.tmps.size = true) (hord : ordB 0 ops.toList = true)
    (hs : ops.toList.map (·.dst) = slots) (hd : ops.toList.map depsOf = deps) (hg : ops.toList.all (guardB ops chain gl) = true) (hch : chainB ops chain = true) (hnd : chain.Nodup) (h0 : J [] W.drew)
    (hpure : ∀ (i : Nat) (o : Oper), ops[i]? = some o → chain.contains i = false → ∀ (a : Act) (w : World) (us : List Value) (K : Act → World → Prop), J us w → Sees slots deps chain pv us a0 a i → (∀ p c, chain[p]? = some c → (deps.getD c []).contains i = true → us.length ≤ p) → K (a.put o.dst (pv.getD i undef)) w → Oper.wp P o a w K Q)
    (hlink : ∀ (p c : Nat) (o : Oper), chain[p]? = some c → ops[c]? = some o → ∀ (a : Act) (w : World) (us : List Value) (K : Act → World → Prop), us.length = p → J us w → Sees slots deps chain pv us a0 a c → (∀ v w', J (us ++ [v]) w' → K (a.put o.dst v) w') → Oper.wp P o a w K Q)
    (hQ : ∀ us w, us.length = chain.length → J us w → Q .normal { a0 with tmps := (frameL ops chain pv us).foldl (fun t p => t.setIfInBounds p.1 p.2) a0.tmps } w) :
    (Code.region id ops true).wp P Q a0 W := by
  have hgd : ∀ (i : Nat) (o : Oper), ops[i]? = some o → guardB ops chain gl o = true := fun i o ho => List.all_eq_true.1 hg o (by simpa using Array.mem_of_getElem? ho)
  refine wp_region_chain chain pv J hm hdst hord hch hnd h0 (fun i o ho hc a w us K hJ hF hl hk => ?_) (fun p c o hp ho a w us K hl hJ hF hk => ?_) hQ
  · refine want_g (hgd i o ho) hgl hF (hpure i o ho hc a w us K hJ (hF.sees hs hd ho) (fun p c hp he => ?_) hk)
    have hcl := chainB_lt hch hp
    have hoc : ops[c]? = some ops[c] := by simp [hcl]
    refine hl p c _ hp hoc (edge_deps ?_)
    have : deps.getD c [] = depsOf ops[c] := by
      rw [← hd, List.getD_eq_getElem?_getD, List.getElem?_map]
      have : ops.toList[c]? = some ops[c] := by simp [hcl]
      rw [this]; rfl
    rw [← this]
    exact he
  · exact want_g (hgd c o ho) hgl hF (hlink p c o hp ho a w us K hl hJ (hF.sees hs hd ho) hk)
theorem wp_ix_com {o : Oper} {a : Act} {w : World} {K : Act → World → Prop} {Q : Exit → Act → World → Prop} {s s' : Nat} {b off n c k : Nat} (ho : o.op = .indexAddr 25 (.tmp s) (.tmp s')) (hx : a.eval (.tmp s) = .slice (some ⟨b, off, none⟩) n c) (hy : a.eval (.tmp s') = .int .i64 k) (hk : k < n) (h : K (a.put o.dst (.pointer (some ⟨b, off + k * 8, none⟩))) w) : o.wp Tryz.prog a w K Q := by
  obtain ⟨dst, op, ty, pos, after, guard⟩ := o
  simp only at ho
  subst ho
  have fx : a.tmps[s]?.getD undef = .slice (some ⟨b, off, none⟩) n c := by simpa [Act.eval] using hx
  have fy : a.tmps[s']?.getD undef = .int .i64 k := by simpa [Act.eval] using hy
  clear hx hy
  go_simp
  exact h
end Go.Proofs.YtagfedbdakmlgaaGreatDoor

/-! StayJ -/
namespace Go.Proofs.YtagfedbdakmlgaaGreatDoor
set_option linter.unusedVariables false
set_option linter.unusedSimpArgs false
open Go.RowKit
def StEv (e : Ev) (v : Value) : Array Value := #[.int .i64 e.id, .int .i64 e.inn, .int .i64 e.out, .string e.region, .int .u8 e.kind, .string e.speaker, v]
def StyJ (Wc W : World) (g n1 n2 : Nat) (L1 L2 : List Value) (e : Ev) (v0 : Value) (us : List Value) (w' : World) : Prop := (us.length ≤ 3 → Ext W w') ∧ match us with
  | [] => True
  | [u0] => w'.ownsRow W.heap.size 87 1 u0 0 []
  | [_, u1] => w'.ownsRow W.heap.size 87 1 u1 n1 L1
  | [_, _, u2] => w'.ownsRow W.heap.size 87 1 u2 (n1 + n2) (L1 ++ L2)
  | [_, _, u2, _] => Ext Wc w' ∧ w'.ownsRow W.heap.size 87 1 u2 (n1 + n2) (L1 ++ L2) ∧ Blk w' g 66 (StEv e u2)
  | _ => False
theorem StyJ.start {Wc W : World} {g n1 n2 : Nat} {L1 L2 : List Value} {e : Ev} {v0 : Value} : StyJ Wc W g n1 n2 L1 L2 e v0 [] W.drew := ⟨fun _ => (Ext.refl W).drew, trivial⟩
theorem row_ones' : ∀ (h : Hd), ∀ u ∈ [Hd.val h], u.oneCell' = true := fun h u hu => by
  rw [List.mem_singleton] at hu
  subst hu
  rfl
theorem StyJ.sto {Wc W w' : World} {g n1 n2 : Nat} {L1 L2 : List Value} {e : Ev} {v0 u0 u1 u2 v : Value} (h : StyJ Wc W g n1 n2 L1 L2 e v0 [u0, u1, u2] w') (hB : Blk W g 66 (StEv e v0)) (hc : Ext Wc W) (hg : Wc.heap.size ≤ g) (hgw : g < W.heap.size) : StyJ Wc W g n1 n2 L1 L2 e v0 ([u0, u1, u2] ++ [v]) (putB w' g 66 (StEv e u2)) := by
  obtain ⟨h1, h2⟩ := h
  have hx := h1 (by simp)
  have hB' := hB.ext hx
  exact ⟨fun hl => by simp at hl, (hc.trans hx).put hg _ _, own_put h2 hB' _ (by decide), hB'.put _⟩
end Go.Proofs.YtagfedbdakmlgaaGreatDoor
