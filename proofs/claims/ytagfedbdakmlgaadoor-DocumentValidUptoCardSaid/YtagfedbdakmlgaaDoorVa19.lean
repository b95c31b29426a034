/- Laid together: The characters of a text that is laid together of valid ones: an accepted event's length is the number of characters of its text. What the law DocumentValid asks of Insert, Put, Remove and Shift: plainly. The walk of event.Join. The walk of the reference's Join. Equality of runs and rows: slices.Equal, style.Same, slices.EqualFunc, style.SameRows; the reference's Same, SameRows. The walks of event.Same and of the reference's Same. Rows whose texts may be written: what stays of them whatever text is put into a run. A variable that is filled with an event found in a document: the region's invariant. Arguments of chapter 14 (and 12), opened: a remark, numbers, strings. -/
import Derived.Test.YtagfedbdakmlgaaDoorVa16
import Derived.Test.YtagfedbdakmlgaaDoorVa15
import Derived.Test.YtagfedbdakmlgaaDoorVa18
import Derived.Test.YtagfedbdakmlgaaDoorVa05
import Derived.Test.YtagfedbdakmlgaaDoorVa01
import Derived.Test.YtagfedbdakmlgaaDoorVa02
import Derived.Test.YtagfedbdakmlgaaDoorVa03
import Derived.Test.YtagfedbdakmlgaaDoorVa11
import Derived.Test.YtagfedbdakmlgaaDoorVa08
import Derived.Test.YtagfedbdakmlgaaDoorVa13

/-! CntP -/
namespace Go.Proofs.YtagfedbdakmlgaaDoor
set_option linter.unusedVariables false
set_option linter.unusedSimpArgs false
open Go.RowKit
theorem decodeL_append (l m : List UInt8) (hne : l ≠ []) (h : ¬ ((Lib.decodeL l).1 = 65533 ∧ (Lib.decodeL l).2 = 1)) : Lib.decodeL (l ++ m) = Lib.decodeL l := by
  have hl : 0 < l.length := List.length_pos_iff.2 hne
  have g : ∀ i, i < l.length → (l ++ m).getD i 0 = l.getD i 0 := fun i hi => by simp [List.getD, List.getElem?_append_left hi]
  rw [Lib.decodeL_N] at h
  rw [Lib.decodeL_N (l ++ m), Lib.decodeL_N l, List.length_append, g 0 hl]
  rcases Lib.decodeN_shape l.length (l.getD 0 0).toNat (l.getD 1 0).toNat (l.getD 2 0).toNat (l.getD 3 0).toNat with ⟨c, e⟩ | ⟨c1, c2, c3, cv, e⟩ | ⟨c1, c2, c3, c4, cv, cs, e⟩ | ⟨c1, c2, c3, c4, c5, cv, cw, e⟩ | e
  · rw [e]; unfold Lib.decodeN; rw [if_pos c]
  · rw [e, g 1 c2]; unfold Lib.decodeN; rw [if_neg (by omega), if_pos ⟨c1, by omega, c3⟩, if_pos cv]
  · rw [e, g 1 (by omega), g 2 c2]; unfold Lib.decodeN; rw [if_neg (by omega), if_neg (by omega), if_pos ⟨c1, ⟨by omega, c3⟩, by omega, c4⟩, if_pos ⟨cv, by omega⟩]
  · rw [e, g 1 (by omega), g 2 (by omega), g 3 c2]; unfold Lib.decodeN; rw [if_neg (by omega), if_neg (by omega), if_neg (by omega), if_pos ⟨c1, ⟨by omega, c3⟩, ⟨by omega, c4⟩, by omega, c5⟩, if_pos ⟨cv, by omega⟩]
  · exact absurd (by rw [e]; exact ⟨rfl, rfl⟩) h
def cntG : Nat → List UInt8 → Nat
  | 0, _ => 0
  | f + 1, l => if l = [] then 0 else 1 + cntG f (l.drop (Lib.decodeL l).2)
def cnt (l : List UInt8) : Nat := cntG l.length l
theorem cntG_fuel : ∀ (f g : Nat) (l : List UInt8), l.length ≤ f → l.length ≤ g → cntG f l = cntG g l
  | 0, 0, _, _, _ => rfl
  | 0, g + 1, l, h, _ => by
    obtain rfl : l = [] := List.eq_nil_of_length_eq_zero (by omega)
    simp [cntG]
  | f + 1, 0, l, _, h => by
    obtain rfl : l = [] := List.eq_nil_of_length_eq_zero (by omega)
    simp [cntG]
  | f + 1, g + 1, l, hf, hg => by
    unfold cntG
    by_cases hne : l = []
    · simp [hne]
    · have hw := Lib.decodeL_width l
      have hl : 0 < l.length := List.length_pos_iff.2 hne
      rw [if_neg hne, if_neg hne, cntG_fuel f g _ (by rw [List.length_drop]; omega) (by rw [List.length_drop]; omega)]
theorem cnt_nil : cnt [] = 0 := rfl
theorem cnt_step (l : List UInt8) (hne : l ≠ []) : cnt l = 1 + cnt (l.drop (Lib.decodeL l).2) := by
  have hw := Lib.decodeL_width l
  have hl : 0 < l.length := List.length_pos_iff.2 hne
  unfold cnt
  obtain ⟨k, hk⟩ : ∃ k, l.length = k + 1 := ⟨l.length - 1, by omega⟩
  conv => lhs; rw [hk]; unfold cntG
  rw [if_neg hne, cntG_fuel k _ _ (by rw [List.length_drop]; omega) (Nat.le_refl _)]
theorem cnt_append (m : List UInt8) : ∀ (f : Nat) (l : List UInt8), l.length ≤ f → Lib.validD l = true → cnt (l ++ m) = cnt l + cnt m ∧ Lib.validD (l ++ m) = Lib.validD m
  | 0, l, h, _ => by
    obtain rfl : l = [] := List.eq_nil_of_length_eq_zero (by omega)
    simp [cnt_nil]
  | f + 1, l, h, hv => by
    by_cases hne : l = []
    · subst hne; simp [cnt_nil]
    · have hw := Lib.decodeL_width l
      have hle := Lib.decodeL_le l hne
      have hl : 0 < l.length := List.length_pos_iff.2 hne
      rw [Lib.validD_step l hne] at hv
      split at hv
      · cases hv
      · rename_i hn
        have ha := decodeL_append l m hne hn
        have hne2 : l ++ m ≠ [] := by simp [hne]
        obtain ⟨i1, i2⟩ := cnt_append m f (l.drop (Lib.decodeL l).2) (by rw [List.length_drop]; omega) hv
        have hd : (l ++ m).drop (Lib.decodeL l).2 = l.drop (Lib.decodeL l).2 ++ m := List.drop_append_of_le_length hle
        rw [cnt_step _ hne2, cnt_step l hne, Lib.validD_step _ hne2, ha, hd, i1, i2, if_neg hn]
        exact ⟨by omega, rfl⟩
theorem cnt_app {l : List UInt8} (m : List UInt8) (hv : Lib.validD l = true) : cnt (l ++ m) = cnt l + cnt m := (cnt_append m l.length l (Nat.le_refl _) hv).1
theorem valid_app {l m : List UInt8} (hv : Lib.validD l = true) (hm : Lib.validD m = true) : Lib.validD (l ++ m) = true := by rw [(cnt_append m l.length l (Nat.le_refl _) hv).2]; exact hm
theorem size_list (s : ByteArray) : s.data.toList.length = s.size := by cases s; simp [ByteArray.size]
theorem runes_cnt (s : ByteArray) : ∀ (f pos : Nat), s.size - pos ≤ f → (runes s pos).length = cnt (s.data.toList.drop pos)
  | f, pos, h => by
    by_cases hp : pos < s.size
    · have hw := Lib.decode_width_pos s pos hp
      have hne : s.data.toList.drop pos ≠ [] := fun he => by
        have := congrArg List.length he
        rw [List.length_drop, size_list] at this
        simp at this; omega
      rw [runes_step s pos hp, List.length_cons, cnt_step _ hne, Lib.decodeL_drop, List.drop_drop]
      cases f with
      | zero => omega
      | succ f => rw [runes_cnt s f _ (by omega)]; omega
    · rw [runes_end s pos hp, List.drop_eq_nil_of_le (by rw [size_list]; omega)]; rfl
theorem count_cnt (s : ByteArray) : ∀ (f pos : Nat), s.size - pos ≤ f → Lib.runeCountFrom s f pos = cnt (s.data.toList.drop pos)
  | f, pos, h => by
    by_cases hp : pos < s.size
    · have hw := Lib.decode_width_pos s pos hp
      have hne : s.data.toList.drop pos ≠ [] := fun he => by
        have := congrArg List.length he
        rw [List.length_drop, size_list] at this
        simp at this; omega
      cases f with
      | zero => omega
      | succ f =>
        unfold Lib.runeCountFrom
        rw [if_pos hp, cnt_step _ hne, Lib.decodeL_drop, List.drop_drop, count_cnt s f _ (by omega)]
    · rw [Lib.runeCountFrom_end s f pos hp, List.drop_eq_nil_of_le (by rw [size_list]; omega)]; rfl
theorem clen_cnt {s : ByteArray} (h : 0 ≤ clen s) : Lib.validD s.data.toList = true ∧ clen s = cnt s.data.toList := by
  unfold clen at *
  split at h
  · rename_i hv
    rw [if_pos hv]
    unfold vld at hv
    rw [Bool.and_eq_true] at hv
    refine ⟨hv.1, ?_⟩
    have := count_cnt s s.size 0 (by omega)
    unfold Lib.runeCount
    rw [this]; simp
  · omega
theorem row_cnt : ∀ {l : Row}, 0 ≤ rowLen l → Lib.validD (rowText l) = true ∧ rowLen l = cnt (rowText l)
  | [], _ => ⟨Lib.validD_nil, rfl⟩
  | r :: l, h => by
    unfold rowLen at h ⊢
    split at h
    · omega
    · rename_i h1
      split at h
      · omega
      · rename_i h2
        rw [if_neg h1, if_neg h2]
        obtain ⟨v1, c1⟩ := clen_cnt (s := r.text) (by omega)
        obtain ⟨v2, c2⟩ := row_cnt (l := l) (by omega)
        have e : rowText (r :: l) = r.text.data.toList ++ rowText l := by simp [rowText, List.flatMap_cons]
        rw [e]
        exact ⟨valid_app v1 v2, by rw [cnt_app _ v1, c1, c2]; simp⟩
theorem lf_valid : Lib.validD [10] = true := by rw [Lib.validD_cons 10 [] (by decide)]; exact Lib.validD_nil
theorem lf_cnt : cnt [10] = 1 := by rw [cnt_step _ (by simp), Lib.decodeL_ascii 10 [] (by decide)]; rfl
theorem tail_cnt : ∀ {l : List Row}, (∀ r ∈ l, 0 ≤ rowLen r) → Lib.validD (Lib.joinTail [10] (l.map rowText)) = true ∧ ∀ s : Int, lenSum s (l.map rowLen) + l.length = s + cnt (Lib.joinTail [10] (l.map rowText))
  | [], _ => ⟨Lib.validD_nil, fun s => by simp [lenSum, Lib.joinTail, cnt_nil]⟩
  | r :: l, h => by
    have h0 := h r (by simp)
    obtain ⟨v1, c1⟩ := row_cnt h0
    obtain ⟨v2, c2⟩ := tail_cnt (l := l) (fun x hx => h x (by simp [hx]))
    have e : Lib.joinTail [10] ((r :: l).map rowText) = [10] ++ (rowText r ++ Lib.joinTail [10] (l.map rowText)) := by simp [Lib.joinTail]
    rw [e]
    refine ⟨valid_app lf_valid (valid_app v1 v2), fun s => ?_⟩
    rw [cnt_app _ lf_valid, cnt_app _ v1, lf_cnt, List.map_cons]
    unfold lenSum
    rw [if_neg (by omega)]
    have := c2 (s + rowLen r)
    rw [List.length_cons]
    omega
theorem len_chars {e : Ev} {regs : List Reg} (h : e.err regs = 0) : e.len = e.chars.length := by
  have ho := Ev.ok_of h
  obtain ⟨rg, -, -, -, hr⟩ := ho.found
  have hne := ho.some_
  unfold Ev.len Ev.chars
  rw [runes_cnt _ _ 0 (Nat.le_refl _)]
  unfold Ev.text
  cases hl : e.rows with
  | nil => rw [hl] at hne; exact absurd rfl hne
  | cons r l =>
    rw [hl] at hr
    obtain ⟨v1, c1⟩ := row_cnt (hr r (by simp)).1
    obtain ⟨v2, c2⟩ := tail_cnt (l := l) (fun x hx => (hr x (by simp [hx])).1)
    rw [List.map_cons, List.map_cons, Lib.join_cons]
    show _ = ((cnt (List.drop 0 (rowText r ++ Lib.joinTail [10] (l.map rowText)).toArray.toList) : Nat) : Int)
    rw [List.drop_zero, List.toList_toArray, cnt_app _ v1]
    unfold lenSum
    have h0 := (hr r (by simp)).1
    rw [if_neg (by omega)]
    have := c2 (max (((r :: l).length : Int) - 1) 0 + rowLen r)
    rw [List.length_cons] at this ⊢
    omega
end Go.Proofs.YtagfedbdakmlgaaDoor

/-! ValL -/
namespace Go.Proofs.YtagfedbdakmlgaaDoor
set_option linter.unusedVariables false
set_option linter.unusedSimpArgs false
open Go.RowKit
/-- what is accepted, and laid together of small parts, may be checked -/
theorem fit_of {d d' : Doc} (hf : DocFit d) (h : DocV d') (h1 : d'.title = d.title) (h2 : d'.lang = d.lang) (h3 : d'.rate = d.rate) (h4 : d'.regs = d.regs) (hev : ∀ x ∈ d'.evs, EvSmall x ∧ x.bytes ≤ 1099511627776) (hc : ∀ c ∈ d'.coms, c.author.size ≤ 9223372036854775807 ∧ c.text.size ≤ 9223372036854775807) : DocFit d' := by
  have hl := (head_ok' h.head).2.2.2.2
  refine ⟨⟨by rw [h3]; exact hf.ok.r0, by rw [h3]; exact hf.ok.r1, by rw [h1]; exact hf.ok.title, by rw [h2]; exact hf.ok.lang⟩, by rw [h4]; exact hf.regs, hev, fun x hx => ?_, fun c hcm => ?_⟩
  · have := ev_ok (h.evs.each x hx).1
    unfold IW; omega
  · have hv := h.coms.each c hcm
    have a1 := hv.id1
    have a2 := hv.id2
    have a3 := hv.ev1
    have a4 := hv.ev2
    exact ⟨by unfold IW; omega, by unfold IW; omega, hc c hcm⟩
def EvIn (l l' : List Ev) (id : Int) : Prop := ∀ x ∈ l, x.id ≠ id → ∃ k, findE l' x.id = some k ∧ l'[k]? = some x
section
variable {d : Doc} {e : Ev}
theorem insX_ok (h : (d.insX e).2.2 = 0) : d.insErr e = 0 ∧ d.insX e = (d.insD e, d.insId e, 0) := by
  unfold Doc.insX at h ⊢
  split
  · rename_i h1; exact ⟨h1, rfl⟩
  · rename_i h1; rw [if_neg h1] at h; exact absurd h h1
theorem val_ins (hf : DocFit d) (hes : EvSmall e) (hby : e.bytes ≤ 1099511627776) (h : (d.insX e).2.2 = 0) : (d.insX e).1.err = 0 ∧ (d.insX e).1.evs.length = d.evs.length + 1 ∧ 0 ≤ findI (d.insX e).1.evs (d.insX e).2.1 ∧ findI d.evs (d.insX e).2.1 < 0 ∧ DocFit (d.insX e).1 ∧
    ∀ x ∈ d.evs, ∃ k, findE (d.insX e).1.evs x.id = some k ∧ (d.insX e).1.evs[k]? = some x := by
  obtain ⟨h1, h2⟩ := insX_ok h
  rw [h2]
  have hv := ins_v h1
  obtain ⟨n1, n2⟩ := ins_new h1
  refine ⟨hv.ok, ?_, n1, n2, fit_of hf hv rfl rfl rfl rfl (fun x hx => ?_) (fun c hc => (hf.coms c hc).2.2), fun x hx => ins_get h1 hx⟩
  · show (srtE _).length = _
    rw [(srtE_perm _).length_eq]; simp
  · have hx' := (srtE_perm _).mem_iff.1 hx
    rw [List.mem_append, List.mem_singleton] at hx'
    rcases hx' with hx' | rfl
    · exact hf.evs x hx'
    · exact ⟨hes, hby⟩
theorem lose_texts (id : Int) (c : Com) : (c.lose id).author = c.author ∧ (c.lose id).text = c.text := by unfold Com.lose; split <;> exact ⟨rfl, rfl⟩
theorem onto_texts (id : Int) (a b : List Int) (c : Com) : (c.onto id a b).author = c.author ∧ (c.onto id a b).text = c.text := by
  unfold Com.onto
  split
  · unfold Com.fol Com.moved
    repeat' split
    all_goals exact ⟨rfl, rfl⟩
  · exact ⟨rfl, rfl⟩
theorem remX_ok {id : Int} (h : (d.remX id).2 = 0) : d.err = 0 ∧ ∃ k, findE d.evs id = some k ∧ d.remX id = ((d.cutE k).withComs (d.coms.map (Com.lose id)), 0) := by
  by_cases h1 : d.err = 0
  · cases hk : findE d.evs id with
    | none => rw [rem_2 h1 hk] at h; simp at h
    | some k => exact ⟨h1, k, rfl, rem_3 h1 hk⟩
  · rw [rem_1 h1] at h; exact absurd h h1
theorem val_rem {id : Int} (hf : DocFit d) (h : (d.remX id).2 = 0) : (d.remX id).1.err = 0 ∧ (d.remX id).1.evs.length + 1 = d.evs.length ∧ DocFit (d.remX id).1 ∧ EvIn d.evs (d.remX id).1.evs id := by
  obtain ⟨h1, k, hk, h2⟩ := remX_ok h
  rw [h2]
  have hv := rem_v h1 hk
  obtain ⟨x, hx, -, -⟩ := findE_mem hk
  have hkl := (List.getElem?_eq_some_iff.1 hx).1
  refine ⟨hv.ok, ?_, fit_of hf hv rfl rfl rfl rfl (fun x hx => hf.evs x ((cut_sub d.evs k).subset hx)) (fun c hc => ?_), fun x hx hne => rem_get h1 hk hx hne⟩
  · show (d.evs.take k ++ d.evs.drop (k + 1)).length + 1 = _
    rw [List.length_append, List.length_take, List.length_drop]; omega
  · obtain ⟨c0, hc0, rfl⟩ := List.mem_map.1 hc
    rw [(lose_texts id c0).1, (lose_texts id c0).2]
    exact (hf.coms c0 hc0).2.2
theorem putX_ok (h : (d.putX e).2 = 0) : d.err = 0 ∧ e.err d.regs = 0 ∧ ∃ k x, findE d.evs e.id = some k ∧ d.evs[k]? = some x ∧ d.putX e = (d.putD e x k, 0) := by
  by_cases h1 : d.err = 0
  · cases hk : findE d.evs e.id with
    | none => rw [put_2 h1 hk] at h; simp at h
    | some k =>
      by_cases h3 : e.err d.regs = 0
      · obtain ⟨x, hx, -, -⟩ := findE_mem hk
        exact ⟨h1, h3, k, x, rfl, hx, put_4 h1 hk h3 hx⟩
      · rw [put_3 h1 hk h3] at h; exact absurd h h3
  · rw [put_1 h1] at h; exact absurd h h1
theorem chars_le {x : Ev} {regs : List Reg} (h : x.err regs = 0) (hb : x.bytes ≤ 1099511627776) : x.chars.length ≤ 35184372088831 := by
  have hs := text_size x (n := x.rows.length) hb (by have := (Ev.ok_of h).few; omega) rfl
  have := runes_len ⟨x.text.toArray⟩
  unfold Ev.chars
  omega
theorem val_put (hf : DocFit d) (hes : EvSmall e) (hby : e.bytes ≤ 1099511627776) (h : (d.putX e).2 = 0) : (d.putX e).1.err = 0 ∧ (d.putX e).1.evs.length = d.evs.length ∧ DocFit (d.putX e).1 ∧ EvIn d.evs (d.putX e).1.evs e.id := by
  obtain ⟨h1, h3, k, x, hk, hx, h2⟩ := putX_ok h
  rw [h2]
  have hxm := List.mem_of_getElem? hx
  have hxe := ((doc_v h1).evs.each x hxm).1
  have hv := put_v h1 hk h3 hx (len_chars hxe) (len_chars h3) (chars_le hxe (hf.evs x hxm).2) (chars_le h3 hby)
  refine ⟨hv.ok, ?_, fit_of hf hv rfl rfl rfl rfl (fun y hy => ?_) (fun c hc => ?_), fun y hy hne => put_get hv hk hx hy hne⟩
  · show (srtE _).length = _
    rw [(srtE_perm _).length_eq, List.length_set]
  · rcases List.mem_or_eq_of_mem_set ((srtE_perm _).mem_iff.1 hy) with hy' | rfl
    · exact hf.evs y hy'
    · exact ⟨hes, hby⟩
  · obtain ⟨c0, hc0, rfl⟩ := List.mem_map.1 hc
    rw [(onto_texts _ _ _ c0).1, (onto_texts _ _ _ c0).2]
    exact (hf.coms c0 hc0).2.2
theorem shX_ok {fr sh : Int} (h : (d.shX fr sh).2 = 0) : d.err = 0 ∧ ¬ (sh < -5184000 ∨ 5184000 < sh) ∧ d.evs.any (Ev.mvBad fr sh) = false ∧ d.shX fr sh = (d.withEvs (srtE (d.evs.map (Ev.mv fr sh))), 0) := by
  by_cases h1 : d.err = 0
  · by_cases h2 : sh < -5184000 ∨ 5184000 < sh
    · rw [sh_2 h1 h2] at h; simp at h
    · cases h3 : d.evs.any (Ev.mvBad fr sh) with
      | true => rw [sh_3 h1 h3] at h; simp at h
      | false => exact ⟨h1, h2, rfl, sh_4 h1 h2 h3⟩
  · rw [sh_1 h1] at h; exact absurd h h1
theorem val_sh {fr sh : Int} (hf : DocFit d) (h : (d.shX fr sh).2 = 0) : (d.shX fr sh).1.err = 0 ∧ (d.shX fr sh).1.evs.length = d.evs.length ∧ DocFit (d.shX fr sh).1 ∧
    ∀ x ∈ d.evs, ∃ k y, findE (d.shX fr sh).1.evs x.id = some k ∧ (d.shX fr sh).1.evs[k]? = some y ∧ y.frames = x.frames ∧ y.text = x.text ∧ y.bytes ≤ 1099511627776 ∧ (0 ≤ y.inn ∧ y.inn ≤ 5184000) ∧ (0 ≤ x.inn ∧ x.inn ≤ 5184000) ∧ (y.inn - x.inn = 0 ∨ y.inn - x.inn = sh) := by
  obtain ⟨h1, hsh, hb, h2⟩ := shX_ok h
  rw [h2]
  have hv := sh_v h1 hb
  have hbt : ∀ x : Ev, (x.mv fr sh).bytes = x.bytes ∧ (x.mv fr sh).text = x.text := fun x => by unfold Ev.bytes Ev.text; rw [mv_rows]; exact ⟨rfl, rfl⟩
  refine ⟨hv.ok, ?_, fit_of hf hv rfl rfl rfl rfl (fun y hy => ?_) (fun c hc => (hf.coms c hc).2.2), fun x hx => ?_⟩
  · show (srtE _).length = _
    rw [(srtE_perm _).length_eq, List.length_map]
  · obtain ⟨x, hx, rfl⟩ := List.mem_map.1 ((srtE_perm _).mem_iff.1 hy)
    have := hf.evs x hx
    rw [(hbt x).1]
    refine ⟨?_, this.2⟩
    unfold Ev.mv
    split
    · exact this.1
    · exact this.1
  · obtain ⟨k, hk, hy⟩ := sh_get h1 hb hx
    obtain ⟨m1, m2, m3, m4, m5, m6, m7, m8⟩ := mv_err h1 hx hb
    refine ⟨k, x.mv fr sh, hk, hy, ?_, (hbt x).2, by rw [(hbt x).1]; exact (hf.evs x hx).2, ⟨m4, by omega⟩, ⟨m6, by omega⟩, m3⟩
    have s1 := (ev_ok m1).2.2
    have s2 := (ev_ok ((doc_v h1).evs.each x hx).1).2.2
    unfold Ev.frames
    rw [if_pos s1, if_pos s2, m2]
end
end Go.Proofs.YtagfedbdakmlgaaDoor

/-! Join -/
namespace Go.Proofs.YtagfedbdakmlgaaDoor
set_option linter.unusedVariables false
set_option linter.unusedSimpArgs false
open Go.RowKit
/-- what the region 'out.Rows = append(out.Rows, Clone(b.Rows)...)' has come to behind each of its links -/
def JoinSt (x y : Ev) (A1 : Option Addr) (n c1 m g6 : Nat) (w w3 : World) : List Value → World → Prop
  | [], w' => Ext w3 w'
  | [v], w' => ∃ A4 c4 hs2, v = .slice A4 m c4 ∧ Ext w3 w' ∧ Sl w' 1 (Cells fun h => [Hd.val h]) A4 m hs2 ∧ hs2.length = m ∧ Goods w' hs2 y.rows ∧ y.rows.length = m ∧ ∀ h ∈ hs2, Fresh w' 66 w.heap.size h.1
  | [_, v], w' => ∃ A5 c5, v = .slice A5 (n + m) c5 ∧ n + m ≤ c5 ∧ RowsOwn w' w.heap.size A5 (n + m) c5 (x.rows ++ y.rows) ∧ Below w.heap.size w w' ∧ w3.heap.size ≤ w'.heap.size ∧ (∀ g t cs, Blk w3 g t cs → t ≠ 61 → Blk w' g t cs)
  | [_, _, _], w' => ∃ A5 c5, n + m ≤ c5 ∧ RowsOwn w' w.heap.size A5 (n + m) c5 (x.rows ++ y.rows) ∧ Ext w w' ∧ w3.heap.size ≤ w'.heap.size ∧ (∀ g t cs, Blk w3 g t cs → t ≠ 61 → g ≠ g6 → Blk w' g t cs) ∧ Blk w' g6 45 (x.cells A5 (n + m) c5)
  | _, _ => False
end Go.Proofs.YtagfedbdakmlgaaDoor

/-! RJoin -/
namespace Go.Proofs.YtagfedbdakmlgaaDoor
set_option linter.unusedVariables false
set_option linter.unusedSimpArgs false
open Go.RowKit
def RJoinSt (x y : Ev) (A1 : Option Addr) (n c1 m g6 : Nat) (w w3 : World) : List Value → World → Prop
  | [], w' => Ext w3 w'
  | [v], w' => ∃ A4 c4 hs2, v = .agg (y.cells A4 m c4) ∧ Ext w3 w' ∧ Sl w' 1 (Cells fun h => [Hd.val h]) A4 m hs2 ∧ hs2.length = m ∧ Goods w' hs2 y.rows ∧ y.rows.length = m ∧ ∀ h ∈ hs2, Fresh w' 66 w.heap.size h.1
  | [_, v], w' => ∃ A4 c4 hs2, v = .slice A4 m c4 ∧ Ext w3 w' ∧ Sl w' 1 (Cells fun h => [Hd.val h]) A4 m hs2 ∧ hs2.length = m ∧ Goods w' hs2 y.rows ∧ y.rows.length = m ∧ ∀ h ∈ hs2, Fresh w' 66 w.heap.size h.1
  | [_, _, v], w' => ∃ A5 c5, v = .slice A5 (n + m) c5 ∧ n + m ≤ c5 ∧ RowsOwn w' w.heap.size A5 (n + m) c5 (x.rows ++ y.rows) ∧ Below w.heap.size w w' ∧ w3.heap.size ≤ w'.heap.size ∧ (∀ g t cs, Blk w3 g t cs → t ≠ 61 → Blk w' g t cs)
  | [_, _, _, _], w' => ∃ A5 c5, n + m ≤ c5 ∧ RowsOwn w' w.heap.size A5 (n + m) c5 (x.rows ++ y.rows) ∧ Ext w w' ∧ w3.heap.size ≤ w'.heap.size ∧ (∀ g t cs, Blk w3 g t cs → t ≠ 61 → g ≠ g6 → Blk w' g t cs) ∧ Blk w' g6 45 (x.cells A5 (n + m) c5)
  | _, _ => False
/-- the region that sets the span of the joined event -/
def RJ7 (x y : Ev) (A5 : Option Addr) (k c5 g6 : Nat) (w6 : World) : List Value → World → Prop
  | [], w' => w' = w6.drew
  | [_], w' => w' = putB w6.drew g6 45 ((x.cells A5 k c5).setIfInBounds 1 (.int .i64 (min x.inn y.inn)))
  | [_, _], w' => w' = putB w6.drew g6 45 ((x.joined y).cells A5 k c5)
  | _, _ => False
end Go.Proofs.YtagfedbdakmlgaaDoor

/-! Same -/
namespace Go.Proofs.YtagfedbdakmlgaaDoor
set_option linter.unusedVariables false
set_option linter.unusedSimpArgs false
open Go.RowKit
theorem neq_run (a b : Run) (w : World) : (binOp .neq 66 a.val b.val).run Tryd.prog w = .ok (.bool (!decide (a = b))) w := by
  obtain ⟨t1, c1, i1, u1, r1⟩ := a
  obtain ⟨t2, c2, i2, u2, r2⟩ := b
  unfold Run.val
  dsimp only
  go_simp
  simp only [toList_inj]
  repeat' split
  all_goals simp_all
theorem neq_run_yes (a b : Run) (h : ¬ a = b) (w : World) : (binOp .neq 66 a.val b.val).run Tryd.prog w = .ok (.bool true) w := by rw [neq_run, decide_eq_false h]; rfl
theorem neq_run_no (a : Run) (w : World) : (binOp .neq 66 a.val a.val).run Tryd.prog w = .ok (.bool false) w := by rw [neq_run, decide_eq_true rfl]; rfl
def EqRel {α : Type} (w : World) (n : Nat) (l1 l2 : List α) (i : Value) (wr : World) : Prop := ∃ k : Nat, k ≤ n ∧ i = .int .i64 k ∧ Ext w wr ∧ l1.take k = l2.take k
theorem eq_of_take {α : Type} {l1 l2 : List α} {n : Nat} (h1 : l1.length = n) (h2 : l2.length = n) (h : l1.take n = l2.take n) : l1 = l2 := by
  rw [List.take_of_length_le (by omega), List.take_of_length_le (by omega)] at h
  exact h
theorem take_eq_succ {α : Type} {l1 l2 : List α} {k : Nat} {x : α} (h : l1.take k = l2.take k) (h1 : l1[k]? = some x) (h2 : l2[k]? = some x) : l1.take (k + 1) = l2.take (k + 1) := by
  rw [List.take_add_one, List.take_add_one, h, h1, h2]
theorem ne_at {α : Type} {l1 l2 : List α} {k : Nat} {x y : α} (h1 : l1[k]? = some x) (h2 : l2[k]? = some y) (h : ¬ x = y) : ¬ l1 = l2 := by
  rintro rfl
  rw [h1] at h2
  exact h (Option.some.inj h2)
set_option maxRecDepth 100000 in
set_option maxHeartbeats 2000000 in
theorem EqualRuns_any (A : Option Addr) (n c : Nat) (B : Option Addr) (m d : Nat) (l1 l2 : Row) (w : World) (h1 : RunsAt w A n l1) (h2 : RunsAt w B m l2) (hn : n ≤ 4611686018427387904) :
    Calls Tryd.prog 99 #[.slice A n c, .slice B m d] w fun e w' => e = .returned (.bool (decide (l1 = l2))) ∧ Ext w w' := by
  have L1 := Lib.hid h1.len
  have L2 := Lib.hid h2.len
  have H1 := Lib.hid h1
  have H2 := Lib.hid h2
  clear h1 h2
  by_cases hnm : n = m
  · subst hnm
    go_enter Tryd.func99, Tryd.ntmps99
    go_wp2_with fail
    go_loopw [13] (fun i wr => EqRel w n l1 l2 i wr) (fun i _ => n - (intOf i).toNat)
    case atStart => exact ⟨0, Nat.zero_le _, rfl, Ext.refl _, rfl⟩
    case round =>
      obtain ⟨k, hk, rfl, hx, hp⟩ := hrel
      have HP := Lib.hid hp
      clear hp
      by_cases hlt : k < n
      · obtain ⟨b1, o1, r, rfl, hr, c0, c1, c2, c3, c4⟩ := (H1.out.ext hx).at_ hlt
        obtain ⟨b2, o2, s, rfl, hs, d0, d1, d2, d3, d4⟩ := (H2.out.ext hx).at_ hlt
        have HR := Lib.hid hr
        have HS := Lib.hid hs
        clear hr hs
        have hk0 : (0 : Int) ≤ (k : Int) := by omega
        have hk1 : (k : Int) < (n : Int) := by omega
        by_cases hq : r = s
        · subst hq
          have HT := Lib.hid (take_eq_succ HP.out HR.out HS.out)
          have hne := fun w => neq_run_no r w
          unfold Run.val at hne
          go_wp2_with fail
          go_quiet (fail)
          go_wp2_with fail
          exact ⟨⟨k + 1, by omega, by go_num, hx.drewN _, HT.out⟩, by simp [intOf]; omega⟩
        · have hne := fun w => neq_run_yes r s hq w
          have HN := Lib.hid (ne_at HR.out HS.out hq)
          unfold Run.val at hne
          clear hq
          go_wp2_with fail
          go_quiet (fail)
          go_wp2_with fail
          go_ret
          exact ⟨ret_bool (decide_eq_false HN.out).symm, hx.drewN _⟩
      · have hkn : k = n := by omega
        subst hkn
        have HQ := Lib.hid (eq_of_take L1.out L2.out HP.out)
        go_wp2_with fail
        go_ret
        exact ⟨ret_bool (decide_eq_true HQ.out).symm, hx⟩
  · have hb : ((n : Int) != (m : Int)) = true := by simp; omega
    have HN : Hid (¬ l1 = l2) := by
      show ¬ _
      intro h
      apply hnm
      rw [← L1.out, ← L2.out, h]
    go_enter Tryd.func99, Tryd.ntmps99
    go_wp2_with fail
    go_ret
    exact ⟨ret_bool (decide_eq_false HN.out).symm, Ext.refl _⟩
set_option maxHeartbeats 1000000 in
theorem SSame_any (A : Option Addr) (n c : Nat) (B : Option Addr) (m d : Nat) (l1 l2 : Row) (w : World) (h1 : RunsAt w A n l1) (h2 : RunsAt w B m l2) (hn : n ≤ 4611686018427387904) :
    Calls Tryd.prog 78 #[.agg #[.slice A n c], .agg #[.slice B m d]] w fun e w' => e = .returned (.bool (decide (l1 = l2))) ∧ Ext w w' := by
  have H1 := Lib.hid h1
  have H2 := Lib.hid h2
  clear h1 h2
  have hx := ((Ext.refl w).alloc (.cells #[.slice A n c] 61)).alloc (.cells #[.slice B m d] 61)
  have HX := Lib.hid hx
  clear hx
  go_enter Tryd.func78, Tryd.ntmps78
  go_wp2_with fail
  refine (EqualRuns_any A n c B m d l1 l2 _ (H1.out.ext HX.out) (H2.out.ext HX.out) hn).mono ?_
  rintro e w1 ⟨rfl, hx1⟩
  go_wp2_with fail
  go_ret
  exact ⟨rfl, HX.out.trans hx1⟩
set_option maxRecDepth 100000 in
set_option maxHeartbeats 2000000 in
theorem EqualFunc_any (A : Option Addr) (n c : Nat) (B : Option Addr) (m d : Nat) (l1 l2 : List Row) (w : World) (h1 : RowsAt w A n l1) (h2 : RowsAt w B m l2) (hn : n ≤ 4611686018427387904) :
    Calls Tryd.prog 77 #[.slice A n c, .slice B m d, .func (.func 78) #[] #[]] w fun e w' => e = .returned (.bool (decide (l1 = l2))) ∧ Ext w w' := by
  have L1 := Lib.hid h1.len
  have L2 := Lib.hid h2.len
  have H1 := Lib.hid h1
  have H2 := Lib.hid h2
  clear h1 h2
  by_cases hnm : n = m
  · subst hnm
    go_enter Tryd.func77, Tryd.ntmps77
    go_wp2_with fail
    go_loopw [17] (fun i wr => EqRel w n l1 l2 i wr) (fun i _ => n - (intOf i).toNat)
    case atStart => exact ⟨0, Nat.zero_le _, rfl, Ext.refl _, rfl⟩
    case round =>
      obtain ⟨k, hk, rfl, hx, hp⟩ := hrel
      have HP := Lib.hid hp
      clear hp
      by_cases hlt : k < n
      · obtain ⟨b1, o1, r, rfl, hr, A1, n1, c1, e1, f1, g1, u1⟩ := (H1.out.ext hx).at_ hlt
        obtain ⟨b2, o2, s, rfl, hs, A2, n2, c2, e2, f2, g2, u2⟩ := (H2.out.ext hx).at_ hlt
        simp only [Nat.mul_one] at e1 e2
        have U1 := Lib.hid u1
        have U2 := Lib.hid u2
        have HR := Lib.hid hr
        have HS := Lib.hid hs
        clear hr hs u1 u2
        have hb2 : b2 < wr.heap.size := World.block_lt_of_cell? wr _ e2
        have hxa := ((Ext.refl wr).alloc (.cells #[.slice A1 n1 c1] 61)).alloc (.cells #[.slice A2 n2 c2] 61)
        have HX := Lib.hid hxa
        clear hxa
        go_wp2_with fail
        refine (SSame_any A1 n1 c1 A2 n2 c2 r s _ (U1.out.ext HX.out) (U2.out.ext HX.out) (by omega)).mono ?_
        rintro e w1 ⟨rfl, hx1⟩
        have hxw1 : Ext w w1 := (hx.trans HX.out).trans hx1
        by_cases hq : r = s
        · subst hq
          have HT := Lib.hid (take_eq_succ HP.out HR.out HS.out)
          rw [decide_eq_true rfl]
          go_wp2_with fail
          exact ⟨⟨k + 1, by omega, by go_num, hxw1, HT.out⟩, by simp [intOf]; omega⟩
        · have HN := Lib.hid (ne_at HR.out HS.out hq)
          rw [decide_eq_false hq]
          clear hq
          go_wp2_with fail
          go_ret
          exact ⟨ret_bool (decide_eq_false HN.out).symm, hxw1⟩
      · have hkn : k = n := by omega
        subst hkn
        have HQ := Lib.hid (eq_of_take L1.out L2.out HP.out)
        go_wp2_with fail
        go_ret
        exact ⟨ret_bool (decide_eq_true HQ.out).symm, hx⟩
  · have hb : ((n : Int) != (m : Int)) = true := by simp; omega
    have HN : Hid (¬ l1 = l2) := by
      show ¬ _
      intro h
      apply hnm
      rw [← L1.out, ← L2.out, h]
    go_enter Tryd.func77, Tryd.ntmps77
    go_wp2_with fail
    go_ret
    exact ⟨ret_bool (decide_eq_false HN.out).symm, Ext.refl _⟩
theorem SameRows_any (A : Option Addr) (n c : Nat) (B : Option Addr) (m d : Nat) (l1 l2 : List Row) (w : World) (h1 : RowsAt w A n l1) (h2 : RowsAt w B m l2) (hn : n ≤ 4611686018427387904) :
    Calls Tryd.prog 52 #[.slice A n c, .slice B m d] w fun e w' => e = .returned (.bool (decide (l1 = l2))) ∧ Ext w w' := by
  have H1 := Lib.hid h1
  have H2 := Lib.hid h2
  clear h1 h2
  go_enter Tryd.func52, Tryd.ntmps52
  go_wp2_with fail
  refine (EqualFunc_any A n c B m d l1 l2 _ H1.out H2.out hn).mono ?_
  rintro e w1 ⟨rfl, hx1⟩
  go_wp2_with fail
  go_ret
  exact ⟨rfl, hx1⟩
end Go.Proofs.YtagfedbdakmlgaaDoor

/-! SameE -/
namespace Go.Proofs.YtagfedbdakmlgaaDoor
set_option linter.unusedVariables false
set_option linter.unusedSimpArgs false
open Go.RowKit
theorem eql_span (a b a' b' : Int) (w : World) : (binOp .eql 41 (.agg #[.int .i64 a, .int .i64 b]) (.agg #[.int .i64 a', .int .i64 b'])).run Tryd.prog w = .ok (.bool (decide (a = a' ∧ b = b'))) w := by
  go_simp
  repeat' split
  all_goals simp_all
theorem ev_ne {x y : Ev} (h : ¬ (x.id = y.id ∧ (x.inn = y.inn ∧ x.out = y.out) ∧ x.region.toList = y.region.toList ∧ x.kind = y.kind ∧ x.speaker.toList = y.speaker.toList ∧ x.rows = y.rows)) : decide (x = y) = false :=
  decide_eq_false (by rintro rfl; exact h ⟨rfl, ⟨rfl, rfl⟩, rfl, rfl, rfl, rfl⟩)
theorem ev_eq {x y : Ev} (h1 : x.id = y.id) (h2 : x.inn = y.inn ∧ x.out = y.out) (h3 : x.region.toList = y.region.toList) (h4 : x.kind = y.kind) (h5 : x.speaker.toList = y.speaker.toList) : decide (x = y) = decide (x.rows = y.rows) := by
  obtain ⟨a1, a2, a3, a4, a5, a6, a7⟩ := x
  obtain ⟨b1, b2, b3, b4, b5, b6, b7⟩ := y
  rw [toList_inj] at h3 h5
  simp_all
set_option maxRecDepth 100000 in
set_option maxHeartbeats 4000000 in
theorem ESame_any (x y : Ev) (A : Option Addr) (n c : Nat) (B : Option Addr) (m d : Nat) (w : World) (h1 : EvAt w x A n c) (h2 : EvAt w y B m d) :
    Calls Tryd.prog 24 #[.agg (x.cells A n c), .agg (y.cells B m d)] w fun e w' => e = .returned (.bool (decide (x = y))) ∧ Ext w w' := by
  have hn24 : n * 24 ≤ 140737488355328 := h1.2.2
  have H1 := Lib.hid h1
  have H2 := Lib.hid h2
  clear h1 h2
  have hx := ((Ext.refl w).alloc (.cells (x.cells A n c) 45)).alloc (.cells (y.cells B m d) 45)
  have HX := Lib.hid hx
  clear hx
  unfold Ev.cells at HX ⊢
  by_cases h0 : x.id = y.id
  · have b0 : (x.id == y.id) = true := by simpa using h0
    have E0 := Lib.hid h0
    clear h0
    by_cases h1 : x.inn = y.inn ∧ x.out = y.out
    · have b1 := fun w => (eql_span x.inn x.out y.inn y.out w).trans (by rw [decide_eq_true h1])
      have E1 := Lib.hid h1
      clear h1
      by_cases h2 : x.region.toList = y.region.toList
      · have b2 : (x.region.toList == y.region.toList) = true := by simpa using h2
        have E2 := Lib.hid h2
        clear h2
        by_cases h3 : x.kind = y.kind
        · have b3 : (x.kind == y.kind) = true := by simpa using h3
          have E3 := Lib.hid h3
          clear h3
          by_cases h4 : x.speaker.toList = y.speaker.toList
          · have b4 : (x.speaker.toList == y.speaker.toList) = true := by simpa using h4
            have E4 := Lib.hid h4
            clear h4
            have HF : Hid (decide (x = y) = decide (x.rows = y.rows)) := ev_eq E0.out E1.out E2.out E3.out E4.out
            go_enter Tryd.func24, Tryd.ntmps24
            go_wp2_with fail
            refine (SameRows_any A n c B m d x.rows y.rows _ (H1.out.1.ext HX.out) (H2.out.1.ext HX.out) (by omega)).mono ?_
            rintro en w1 ⟨rfl, hx1⟩
            go_wp2_with fail
            go_ret
            exact ⟨ret_bool HF.out.symm, HX.out.trans hx1⟩
          · have b4 : (x.speaker.toList == y.speaker.toList) = false := by simpa using h4
            have HF : Hid (decide (x = y) = false) := ev_ne (fun h => h4 h.2.2.2.2.1)
            clear h4
            go_enter Tryd.func24, Tryd.ntmps24
            go_wp2_with fail
            go_ret
            exact ⟨ret_bool HF.out.symm, HX.out⟩
        · have b3 : (x.kind == y.kind) = false := by simpa using h3
          have HF : Hid (decide (x = y) = false) := ev_ne (fun h => h3 h.2.2.2.1)
          clear h3
          go_enter Tryd.func24, Tryd.ntmps24
          go_wp2_with fail
          go_ret
          exact ⟨ret_bool HF.out.symm, HX.out⟩
      · have b2 : (x.region.toList == y.region.toList) = false := by simpa using h2
        have HF : Hid (decide (x = y) = false) := ev_ne (fun h => h2 h.2.2.1)
        clear h2
        go_enter Tryd.func24, Tryd.ntmps24
        go_wp2_with fail
        go_ret
        exact ⟨ret_bool HF.out.symm, HX.out⟩
    · have b1 := fun w => (eql_span x.inn x.out y.inn y.out w).trans (by rw [decide_eq_false h1])
      have HF : Hid (decide (x = y) = false) := ev_ne (fun h => h1 h.2.1)
      clear h1
      go_enter Tryd.func24, Tryd.ntmps24
      go_wp2_with fail
      go_ret
      exact ⟨ret_bool HF.out.symm, HX.out⟩
  · have b0 : (x.id == y.id) = false := by simpa using h0
    have HF : Hid (decide (x = y) = false) := ev_ne (fun h => h0 h.1)
    clear h0
    go_enter Tryd.func24, Tryd.ntmps24
    go_wp2_with fail
    go_ret
    exact ⟨ret_bool HF.out.symm, HX.out⟩
end Go.Proofs.YtagfedbdakmlgaaDoor

/-! KeepA -/
namespace Go.Proofs.YtagfedbdakmlgaaDoor
set_option linter.unusedVariables false
set_option linter.unusedSimpArgs false
open Go.RowKit
/-- rows in memory from block L on: their headers, and a text in each of their runs -/
def Shape (w : World) (L : Nat) (A : Option Addr) (n : Nat) (hs : List Hd) : Prop :=
  HdsAt w A n hs ∧ Fresh w 61 L A ∧ ∀ h ∈ hs, h.2.1 ≤ h.2.2 ∧ h.2.1 ≤ 140737488355328 ∧ Fresh w 66 L h.1 ∧ ∀ k, k < h.2.1 → ∃ b off s, h.1 = some ⟨b, off, none⟩ ∧ w.cell? ⟨b, off + k * 5, none⟩ = some (.string s)
theorem RowsFresh.shape {w : World} {L : Nat} {A : Option Addr} {n : Nat} {l : List Row} (h : RowsFresh w L A n l) : ∃ hs, Shape w L A n hs := by
  obtain ⟨hs, h1, h2, h3, h4, h5⟩ := h
  refine ⟨hs, h1, h4, fun hd hm => ?_⟩
  obtain ⟨i, hi⟩ := List.getElem?_of_mem hm
  have hil : i < l.length := by rw [h3, ← h1.len]; exact (List.getElem?_eq_some_iff.1 hi).1
  have g := h2 i hd _ hi (List.getElem?_eq_getElem hil)
  refine ⟨g.1, by have := g.2.1; omega, h5 hd hm, fun k hk => ?_⟩
  obtain ⟨b, off, x, hA, hx, hC⟩ := g.2.2.at_ hk
  exact ⟨b, off, x.text, hA, hC.1⟩
theorem Shape.ext {w w1 : World} {L : Nat} {A : Option Addr} {n : Nat} {hs : List Hd} (h : Shape w L A n hs) (k : Ext w w1) : Shape w1 L A n hs :=
  ⟨Sl.ext (Cells.stays _) h.1 k, h.2.1.ext k, fun hd hm => ⟨(h.2.2 hd hm).1, (h.2.2 hd hm).2.1, (h.2.2 hd hm).2.2.1.ext k, fun q hq => by
    obtain ⟨b, off, s, h1, h2⟩ := (h.2.2 hd hm).2.2.2 q hq
    exact ⟨b, off, s, h1, k.cell h2⟩⟩⟩
theorem Shape.le {w : World} {L L' : Nat} {A : Option Addr} {n : Nat} {hs : List Hd} (h : Shape w L A n hs) (hl : L' ≤ L) : Shape w L' A n hs :=
  ⟨h.1, h.2.1.le hl, fun hd hm => ⟨(h.2.2 hd hm).1, (h.2.2 hd hm).2.1, (h.2.2 hd hm).2.2.1.le hl, (h.2.2 hd hm).2.2.2⟩⟩
theorem cell_set_self {w : World} {p : Addr} {v : Value} (hs : p.spot = none) (h : w.cell? p = some v) (u : Value) : (w.setCell p u).cell? p = some u := by
  unfold World.cell? at h
  unfold World.cell? World.setCell
  simp only [Array.getElem?_modify, if_true]
  cases hb : w.heap[p.block]? with
  | none => rw [hb] at h; simp at h
  | some o =>
    rw [hb] at h
    cases o with
    | cells c t fz =>
      simp [hs] at h ⊢
      have := (Array.getElem?_eq_some_iff.1 h).1
      simp [this]
    | _ => simp at h
/-- a text is put into a run -/
theorem Shape.set {w : World} {L : Nat} {A : Option Addr} {n : Nat} {hs : List Hd} (h : Shape w L A n hs) {b o : Nat} (hT : Typed w 66 b) {s0 : ByteArray} (hc : w.cell? ⟨b, o, none⟩ = some (.string s0)) (s : ByteArray) : Shape (w.setCell ⟨b, o, none⟩ (.string s)) L A n hs := by
  refine ⟨Sl.keep h.1 fun _ b' off hA o' x hx j u hu => ?_, h.2.1.setCell _ _, fun hd hm => ⟨(h.2.2 hd hm).1, (h.2.2 hd hm).2.1, (h.2.2 hd hm).2.2.1.setCell _ _, fun q hq => ?_⟩⟩
  · have hne : b' ≠ b := Typed.ne (h.2.1 _ hA).2 hT (by decide)
    rw [World.cell?_setCell_other w ⟨b, o, none⟩ ⟨b', o' + j, none⟩ _ (fun e => hne (by injection e with e1; exact e1.symm))]
    exact hx j u hu
  · obtain ⟨b', off, s', h1, h2⟩ := (h.2.2 hd hm).2.2.2 q hq
    by_cases he : (⟨b', off + q * 5, none⟩ : Addr) = ⟨b, o, none⟩
    · exact ⟨b', off, s, h1, by rw [he]; exact cell_set_self rfl hc _⟩
    · exact ⟨b', off, s', h1, by rw [World.cell?_setCell_other w ⟨b, o, none⟩ _ _ (Ne.symm he)]; exact h2⟩
/-- what 'was, then := Clone(e), Clone(d)' has come to: two copies, two variables -/
structure KeepJ (x y : Ev) (n m : Nat) (w2 : World) (us : List Value) (gs : Nat → Option Nat) (w : World) : Prop where
  ext : Ext w2 w
  one : ∀ v, us[0]? = some v → ∃ A1 c1, v = .agg (x.cells A1 n c1) ∧ n ≤ c1 ∧ RowsFresh w w2.heap.size A1 n x.rows
  two : ∀ v, us[1]? = some v → ∃ A2 c2, v = .agg (y.cells A2 m c2) ∧ m ≤ c2 ∧ RowsFresh w w2.heap.size A2 m y.rows
  va : ∀ g, gs 4 = some g → w2.heap.size ≤ g ∧ ∃ cs, cs.size = 7 ∧ Blk w g 45 cs ∧ (2 < us.length → us[0]? = some (.agg cs))
  vb : ∀ g, gs 5 = some g → w2.heap.size ≤ g ∧ ∃ cs, cs.size = 7 ∧ Blk w g 45 cs ∧ (3 < us.length → us[1]? = some (.agg cs))
  ne : ∀ g g', gs 4 = some g → gs 5 = some g' → g ≠ g'
section
variable {x y : Ev} {n m : Nat} {w2 w : World} {us : List Value} {gs : Nat → Option Nat}
end
def evs4 (p q r s : Ev) (A1 : Option Addr) (n1 c1 : Nat) (A2 : Option Addr) (n2 c2 : Nat) (A3 : Option Addr) (n3 c3 : Nat) (A4 : Option Addr) (n4 c4 : Nat) : Array Value :=
  #[.int .i64 p.id, .int .i64 p.inn, .int .i64 p.out, .string p.region, .int .u8 p.kind, .string p.speaker, .slice A1 n1 c1, .int .i64 q.id, .int .i64 q.inn, .int .i64 q.out, .string q.region, .int .u8 q.kind, .string q.speaker, .slice A2 n2 c2, .int .i64 r.id, .int .i64 r.inn, .int .i64 r.out, .string r.region, .int .u8 r.kind, .string r.speaker, .slice A3 n3 c3, .int .i64 s.id, .int .i64 s.inn, .int .i64 s.out, .string s.region, .int .u8 s.kind, .string s.speaker, .slice A4 n4 c4]
/-- what '[]Event{a, b, j, Clone(e)}' has come to -/
def Keep6 (x : Ev) (n : Nat) (w7 : World) (cs : Option Addr → Nat → Array Value) : List Value → World → Prop
  | [], w' => Ext w7 w'
  | [v], w' => ∃ A8 c8, v = .agg (x.cells A8 n c8) ∧ n ≤ c8 ∧ RowsFresh w' w7.heap.size A8 n x.rows ∧ Ext w7 w'
  | [_, s], w' => ∃ A8 c8 g, s = .slice (some ⟨g, 0, none⟩) 4 4 ∧ n ≤ c8 ∧ RowsFresh w' w7.heap.size A8 n x.rows ∧ Ext w7 w' ∧ w7.heap.size ≤ g ∧ Blk w' g 45 (cs A8 c8)
  | [_, s, l], w' => ∃ A8 c8 g, s = .slice (some ⟨g, 0, none⟩) 4 4 ∧ l = .int .i64 4 ∧ n ≤ c8 ∧ RowsFresh w' w7.heap.size A8 n x.rows ∧ Ext w7 w' ∧ w7.heap.size ≤ g ∧ Blk w' g 45 (cs A8 c8)
  | _, _ => False
/-- four events in a row -/
structure Four where
  ev : Nat → Ev
  at_ : Nat → Option Addr
  len : Nat → Nat
  cap : Nat → Nat
  hds : Nat → List Hd
def Four.of (p q r s : Ev) (A1 : Option Addr) (n1 c1 : Nat) (A2 : Option Addr) (n2 c2 : Nat) (A3 : Option Addr) (n3 c3 : Nat) (A4 : Option Addr) (n4 c4 : Nat) (h1 h2 h3 h4 : List Hd) : Four :=
  ⟨fun | 0 => p | 1 => q | 2 => r | _ => s, fun | 0 => A1 | 1 => A2 | 2 => A3 | _ => A4, fun | 0 => n1 | 1 => n2 | 2 => n3 | _ => n4, fun | 0 => c1 | 1 => c2 | 2 => c3 | _ => c4, fun | 0 => h1 | 1 => h2 | 2 => h3 | _ => h4⟩
def Four.cells (F : Four) (k : Nat) : Array Value := (F.ev k).cells (F.at_ k) (F.len k) (F.cap k)
/-- their memory may be written, from block L on -/
def Four.Ok (F : Four) (w : World) (L g : Nat) : Prop := (∀ k, k < 4 → Shape w L (F.at_ k) (F.len k) (F.hds k)) ∧ (∀ k, k < 4 → ∀ j v, (F.cells k)[j]? = some v → w.cell? ⟨g, k * 7 + j, none⟩ = some v) ∧ Typed w 45 g
theorem Four.Ok.ext {F : Four} {w w1 : World} {L g : Nat} (h : F.Ok w L g) (k : Ext w w1) : F.Ok w1 L g := ⟨fun i hi => (h.1 i hi).ext k, fun i hi j v hv => k.cell (h.2.1 i hi j v hv), h.2.2.ext k⟩
theorem Four.Ok.put {F : Four} {w : World} {L g : Nat} (h : F.Ok w L g) {g' : Nat} {cs : Array Value} (hB : Blk w g' 45 cs) (hne : g' ≠ g) (cs' : Array Value) : F.Ok (putB w g' 45 cs') L g := by
  refine ⟨fun i hi => ?_, fun i hi j v hv => ?_, ?_⟩
  · obtain ⟨a1, a2, a3⟩ := h.1 i hi
    refine ⟨Sl.keep a1 fun _ b off hA o x hx j u hu => ?_, a2.put hB cs' (by decide), fun hd hm => ⟨(a3 hd hm).1, (a3 hd hm).2.1, (a3 hd hm).2.2.1.put hB cs' (by decide), fun q hq => ?_⟩⟩
    · have hb : b ≠ g' := Typed.ne (a2 _ hA).2 hB.typed (by decide)
      rw [putB_cell_other (p := ⟨b, o + j, none⟩) hb]; exact hx j u hu
    · obtain ⟨b, off, s, e1, e2⟩ := (a3 hd hm).2.2.2 q hq
      have hb : b ≠ g' := Typed.ne ((a3 hd hm).2.2.1 _ e1).2 hB.typed (by decide)
      exact ⟨b, off, s, e1, by rw [putB_cell_other (p := ⟨b, off + q * 5, none⟩) hb]; exact e2⟩
  · rw [putB_cell_other (p := ⟨g, i * 7 + j, none⟩) (Ne.symm hne)]; exact h.2.1 i hi j v hv
  · obtain ⟨cur, hb⟩ := h.2.2
    refine ⟨cur, ?_⟩
    unfold putB
    simp only
    rw [Array.getElem?_setIfInBounds_ne hne]
    exact hb
theorem Four.Ok.set {F : Four} {w : World} {L g : Nat} (h : F.Ok w L g) {b o : Nat} (hT : Typed w 66 b) {s0 : ByteArray} (hc : w.cell? ⟨b, o, none⟩ = some (.string s0)) (s : ByteArray) : F.Ok (w.setCell ⟨b, o, none⟩ (.string s)) L g := by
  refine ⟨fun i hi => (h.1 i hi).set hT hc s, fun i hi j v hv => ?_, h.2.2.setCell _ _⟩
  have hne : b ≠ g := Typed.ne hT h.2.2 (by decide)
  rw [World.cell?_setCell_other w ⟨b, o, none⟩ ⟨g, i * 7 + j, none⟩ _ (fun e => hne (by injection e))]
  exact h.2.1 i hi j v hv
/-- the loops over the four events, over the rows of one, over the runs of one -/
def Keep0 (F : Four) (w3 : World) (g8 : Nat) (i : Value) (wr : World) : Prop := ∃ k : Nat, k ≤ 4 ∧ i = .int .i64 k ∧ Ext w3 wr ∧ F.Ok wr w3.heap.size g8
def Keep1 (F : Four) (w3 : World) (g8 gx : Nat) (cx : Array Value) (N : Nat) (i : Value) (wr : World) : Prop := ∃ q : Nat, q ≤ N ∧ i = .int .i64 q ∧ Ext w3 wr ∧ F.Ok wr w3.heap.size g8 ∧ Blk wr gx 45 cx
end Go.Proofs.YtagfedbdakmlgaaDoor

/-! ValJ -/
namespace Go.Proofs.YtagfedbdakmlgaaDoor
set_option linter.unusedVariables false
set_option linter.unusedSimpArgs false
open Go.RowKit
theorem Ext.ext {w w1 w2 : World} (h : Ext w w1) (k : Ext w1 w2) : Ext w w2 := h.trans k
structure YJ (k : Int) (cs : Array Value) (W : World) (us : List Value) (gs : Nat → Option Nat) (w' : World) : Prop where
  ext : Ext W w'
  val : ∀ u, us[0]? = some u → u = .int .i64 k
  va : ∀ g, gs 8 = some g → W.heap.size ≤ g ∧ ∃ cs', cs'.size = 7 ∧ Blk w' g 45 cs' ∧ (1 < us.length → cs' = cs)
section
variable {k : Int} {cs : Array Value} {W w' w2 : World} {us : List Value} {gs : Nat → Option Nat} {u v : Value}
theorem YJ.start (W : World) : YJ k cs W [] (fun _ => none) W.drew := ⟨(Ext.refl W).drew, fun u h => by simp at h, fun g h => by cases h⟩
theorem YJ.alo (j : YJ k cs W us gs w') (hl : us.length ≤ 1) : YJ k cs W us (upd gs 8 w'.heap.size) (w'.alloc (.cells evZero 45)) := by
  have hx : Ext w' (w'.alloc (.cells evZero 45)) := (Ext.refl w').alloc _
  refine ⟨j.ext.trans hx, j.val, fun g hg => ?_⟩
  rw [upd_self] at hg
  obtain rfl : w'.heap.size = g := Option.some.inj hg
  exact ⟨j.ext.size, evZero, rfl, Blk.new w' _ _, fun h => absurd h (by omega)⟩
theorem YJ.call (j : YJ k cs W [] gs w') (hx : Ext w' w2) : YJ k cs W ([] ++ [.int .i64 k]) gs w2 := by
  refine ⟨j.ext.trans hx, fun u h => by simp at h; exact h.symm, fun g hg => ?_⟩
  obtain ⟨h1, cs', h2, h3, h4⟩ := j.va g hg
  exact ⟨h1, cs', h2, h3.ext hx, fun h => by simp at h⟩
theorem YJ.sto (j : YJ k cs W [u] gs w') {g : Nat} (hg : gs 8 = some g) {cs' : Array Value} (hB : Blk w' g 45 cs') (hsz : cs.size = 7 := by rfl) : YJ k cs W ([u] ++ [v]) gs (putB w' g 45 cs) := by
  refine ⟨j.ext.put (j.va g hg).1 _ _, fun u h => j.val u (by simpa using h), fun g' hg' => ?_⟩
  rw [hg] at hg'
  obtain rfl : g = g' := Option.some.inj hg'
  exact ⟨(j.va g hg).1, cs, hsz, hB.put _, fun _ => rfl⟩
end
end Go.Proofs.YtagfedbdakmlgaaDoor

/-! OpenC -/
namespace Go.Proofs.YtagfedbdakmlgaaDoor
set_option linter.unusedVariables false
set_option linter.unusedSimpArgs false
open Go.RowKit Go.ChangeShapes Go.WideShapes Go.ChangeAt
set_option maxRecDepth 100000
theorem argC_int64 {H : Type} {enc : TypeId × Value → H} {W : World} {base : Nat} {v : Value} {d : DataW H} {p : List MemPlace} (hv : Value.okWide Tryd.prog W .any base 2 v) (h : DataW.Trod enc Tryd.prog W 0 (fun _ => true) true 2 v d p)
    (hw : ∀ n ∈ d.weights Tryd.prog 2, n ≤ reachBytes) : ∃ a : Int, v = .int .i64 a ∧ IW a := by
  obtain ⟨fuel, h⟩ := h
  obtain ⟨a, ha, hb⟩ := Opens.int Tryd.underlying2 H enc fuel _ _ h hw
  unfold Value.okWide at hv
  rw [Tryd.underlying2] at hv
  cases v with
  | agg cs => exact absurd hv (by unfold Cell.okWide; rw [Tryd.underlying2]; simp [Cell.ok])
  | _ => first | (refine ⟨a, ?_, bounds_i64 hb⟩; exact (List.cons.inj ha).1) | (simp at hv; done)
/-- the lists of a document of one's own are short -/
def DocShort (d : Doc) : Prop := d.regs.length ≤ 16 ∧ d.evs.length ≤ 1000000 ∧ d.coms.length ≤ 1000000
theorem DocOwn.short {w : World} {L : Nat} {d : Doc} {h : DocH} (o : DocOwn w L d h) (s : DocShort d) : h.rn ≤ 1000000000 ∧ h.en ≤ 1000000000 ∧ h.cn ≤ 1000000000 := by
  have h1 := o.rlen
  have h2 := o.evs.len
  have h3 := o.clen
  obtain ⟨s1, s2, s3⟩ := s
  omega
theorem regs_short {l : List Reg} (h : regsErr l = 0) : l.length ≤ 16 := by
  unfold regsErr at h
  split at h
  · simp at h
  · omega
theorem valid_short {d : Doc} (h : d.err = 0) : DocShort d := by
  have := doc_ok h
  exact ⟨regs_short this.2.1, by omega, by omega⟩
end Go.Proofs.YtagfedbdakmlgaaDoor
