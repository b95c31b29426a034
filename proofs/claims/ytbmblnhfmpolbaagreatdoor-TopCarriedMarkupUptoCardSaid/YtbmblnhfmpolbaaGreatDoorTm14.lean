/- Texts laid together. -/
import Derived.Test.YtbmblnhfmpolbaaGreatDoorTm03
import Derived.Test.YtbmblnhfmpolbaaGreatDoorTm13
import Derived.Lib.ItoaNum
import Derived.Test.YtbmblnhfmpolbaaGreatDoorTm10
import Derived.Maps.Own
import Derived.Maps.OwnOps
import Derived.Maps.OwnSet
import Derived.Maps.Views
import Derived.StringKeys
set_option linter.unusedVariables false
set_option linter.unusedSimpArgs false
namespace Go.Proofs.YtbmblnhfmpolbaaGreatDoor
section
def sTt : ByteArray := ⟨#[116, 116]⟩
def sTitle : ByteArray := ⟨#[116, 105, 116, 108, 101]⟩
def sLang : ByteArray := ⟨#[108, 97, 110, 103]⟩
def sRate : ByteArray := ⟨#[114, 97, 116, 101]⟩
def sDrop : ByteArray := ⟨#[100, 114, 111, 112]⟩
def sLast : ByteArray := ⟨#[108, 97, 115, 116]⟩
def sRegion : ByteArray := ⟨#[114, 101, 103, 105, 111, 110]⟩
def sName : ByteArray := ⟨#[110, 97, 109, 101]⟩
def sTop : ByteArray := ⟨#[116, 111, 112]⟩
def sHeight : ByteArray := ⟨#[104, 101, 105, 103, 104, 116]⟩
def sLeft : ByteArray := ⟨#[108, 101, 102, 116]⟩
def sWidth : ByteArray := ⟨#[119, 105, 100, 116, 104]⟩
def sAlign : ByteArray := ⟨#[97, 108, 105, 103, 110]⟩
def sAnchor : ByteArray := ⟨#[97, 110, 99, 104, 111, 114]⟩
def sTOP : ByteArray := ⟨#[84, 79, 80]⟩
def sBOTTOM : ByteArray := ⟨#[66, 79, 84, 84, 79, 77]⟩
def sP : ByteArray := ⟨#[112]⟩
def sId : ByteArray := ⟨#[105, 100]⟩
def sIn : ByteArray := ⟨#[105, 110]⟩
def sOut : ByteArray := ⟨#[111, 117, 116]⟩
def sKind : ByteArray := ⟨#[107, 105, 110, 100]⟩
def sSpeaker : ByteArray := ⟨#[115, 112, 101, 97, 107, 101, 114]⟩
def sRow : ByteArray := ⟨#[114, 111, 119]⟩
def sRun : ByteArray := ⟨#[114, 117, 110]⟩
def sColor : ByteArray := ⟨#[99, 111, 108, 111, 114]⟩
def sItalic : ByteArray := ⟨#[105, 116, 97, 108, 105, 99]⟩
def sUnderline : ByteArray := ⟨#[117, 110, 100, 101, 114, 108, 105, 110, 101]⟩
def sRuby : ByteArray := ⟨#[114, 117, 98, 121]⟩
def sOne : ByteArray := ⟨#[49]⟩
def sF : ByteArray := ⟨#[102]⟩
def sALEFT : ByteArray := ⟨#[76, 69, 70, 84]⟩
def sACENTER : ByteArray := ⟨#[67, 69, 78, 84, 69, 82]⟩
def sARIGHT : ByteArray := ⟨#[82, 73, 71, 72, 84]⟩
def sWhite : ByteArray := ⟨#[119, 104, 105, 116, 101]⟩
def sGreen : ByteArray := ⟨#[103, 114, 101, 101, 110]⟩
def sBlue : ByteArray := ⟨#[98, 108, 117, 101]⟩
def sCyan : ByteArray := ⟨#[99, 121, 97, 110]⟩
def sRed : ByteArray := ⟨#[114, 101, 100]⟩
def sYellow : ByteArray := ⟨#[121, 101, 108, 108, 111, 119]⟩
def sMagenta : ByteArray := ⟨#[109, 97, 103, 101, 110, 116, 97]⟩
def sKDIALOGUE : ByteArray := ⟨#[68, 73, 65, 76, 79, 71, 85, 69]⟩
def sKSOUND : ByteArray := ⟨#[83, 79, 85, 78, 68]⟩
def sKTITLE : ByteArray := ⟨#[84, 73, 84, 76, 69]⟩
def sKMUSIC : ByteArray := ⟨#[77, 85, 83, 73, 67]⟩
def decS (n : Int) : ByteArray := ⟨(Lib.itoa n).toArray⟩
def frS (n : Int) : ByteArray := decS n ++ sF
def flagS (b : Bool) : ByteArray := if b then sOne else ByteArray.empty
def colorS (c : Int) : ByteArray := if c = 1 then sGreen else if c = 2 then sBlue else if c = 3 then sCyan else if c = 4 then sRed else if c = 5 then sYellow else if c = 6 then sMagenta else ByteArray.empty
def alignS (a : Int) : ByteArray := if a = 1 then sALEFT else if a = 2 then sACENTER else sARIGHT
def kindS (k : Int) : ByteArray := if k = 1 then sKDIALOGUE else if k = 2 then sKSOUND else if k = 3 then sKTITLE else if k = 4 then sKMUSIC else ByteArray.empty
def anchorS (b : Bool) : ByteArray := if b then sBOTTOM else sTOP
def attrsF (l : List (ByteArray × ByteArray)) : List (ByteArray × ByteArray) := l.filter fun a => decide (a.2.size ≠ 0)
def ttA (d : Doc) : List (ByteArray × ByteArray) := [(sTitle, d.title), (sLang, d.lang), (sRate, rName d.rate), (sDrop, flagS d.drop), (sLast, decS d.last)]
def regA (r : Reg) : List (ByteArray × ByteArray) := [(sName, r.name), (sTop, decS r.top), (sHeight, decS r.height), (sLeft, decS r.left), (sWidth, decS r.width), (sAlign, alignS r.align), (sAnchor, anchorS r.bottom)]
def evA (e : Ev) : List (ByteArray × ByteArray) := [(sId, decS e.id), (sIn, frS e.inn), (sOut, frS e.out), (sRegion, e.region), (sKind, kindS e.kind), (sSpeaker, e.speaker)]
def runA (r : Run) : List (ByteArray × ByteArray) := [(sColor, colorS r.color), (sItalic, flagS r.italic), (sUnderline, flagS r.under), (sRuby, r.ruby)]
def elN (n : ByteArray) (al : List (ByteArray × ByteArray)) (k : Nat) : Nd := ⟨n, ByteArray.empty, attrsF al, k⟩
def ttN (d : Doc) : Nd := elN sTt (ttA d) 0
def regN (r : Reg) : Nd := elN sRegion (regA r) 1
def evN (e : Ev) : Nd := elN sP (evA e) 1
def rowN : Nd := elN sRow [] 2
def runN (r : Run) : Nd := elN sRun (runA r) 3
def txtN (r : Run) : Nd := ⟨ByteArray.empty, r.text, [], 4⟩
def runNs (l : Row) : List Nd := l.flatMap fun r => [runN r, txtN r]
def rowNs (l : List Row) : List Nd := l.flatMap fun r => rowN :: runNs r
def evNs (l : List Ev) : List Nd := l.flatMap fun e => evN e :: rowNs e.rows
def nodesL (d : Doc) : List Nd := ttN d :: (d.regs.map regN ++ evNs d.evs)
def ascB (s : ByteArray) : Bool := s.data.toList.all fun b => decide (32 ≤ b.toNat ∧ b.toNat ≤ 126)
theorem ascB_at {s : ByteArray} (h : ascB s = true) (k : Nat) (hk : k < s.size) : 32 ≤ s[k].toNat ∧ s[k].toNat ≤ 126 := by
 unfold ascB at h
 rw [List.all_eq_true] at h
 have := h s[k] (by simp [ByteArray.getElem_eq_getElem_data])
 simpa using this
theorem vld_asc {s : ByteArray} (h : ascB s = true) : vld s = true := by
 unfold vld
 have hv : Lib.validD s.data.toList = true := by
  rw [Lib.validD_ascii s.data.toList.length s.data.toList (fun b hb => by
   unfold ascB at h
   rw [List.all_eq_true] at h
   have := h b (List.mem_of_mem_take hb)
   simp only [decide_eq_true_eq] at this
   omega), List.drop_length]
  rfl
 have hr : ∀ n k, s.size - k = n → ((runes s k).all fun r => decide (0 ≤ idx r)) = true := by
  intro n
  induction n with
  | zero => intro k hk; rw [runes_end s k (by omega)]; rfl
  | succ n ih =>
   intro k hk
   have hb := ascB_at h k (by omega)
   rw [runes_step s k (by omega), decode_ascii s k (by omega) (by omega), List.all_cons, ih _ (by simp only; omega), Bool.and_true]
   have : idx ((s[k]).toNat : Int) = (s[k].toNat : Int) - 32 := by unfold idx; rw [if_pos (by omega)]
   simp only [this, decide_eq_true_eq]
   omega
 rw [hv, hr _ 0 rfl]
 rfl
theorem nameB_asc {s : ByteArray} (h : nameB s = true) : ascB s = true := by
 unfold nameB at h
 simp only [Bool.and_eq_true, List.all_eq_true] at h
 unfold ascB
 rw [List.all_eq_true]
 intro b hb
 have := h.2 b hb
 unfold nbI at this
 simp only [decide_eq_true_eq] at this ⊢
 omega
theorem digits_all : ∀ (u : Nat), ∀ b ∈ Lib.decDigits u, 48 ≤ b.toNat ∧ b.toNat ≤ 57 := by
 intro u
 induction u using Nat.strongRecOn with
 | _ u ih =>
  intro b hb
  rw [Lib.decDigits] at hb
  split at hb
  · rename_i h
    rw [List.mem_singleton.1 hb]
    have : (UInt8.ofNat (48 + u)).toNat = 48 + u := by rw [UInt8.toNat_ofNat']; exact Nat.mod_eq_of_lt (by omega)
    omega
  · rename_i h
    rcases List.mem_append.1 hb with hb | hb
    · exact ih (u / 10) (by omega) b hb
    · rw [List.mem_singleton.1 hb]
      have : (UInt8.ofNat (48 + u % 10)).toNat = 48 + u % 10 := by rw [UInt8.toNat_ofNat']; exact Nat.mod_eq_of_lt (by omega)
      omega
theorem decS_asc {n : Int} (h : 0 ≤ n) : ascB (decS n) = true := by
 unfold ascB decS
 rw [List.all_eq_true]
 intro b hb
 simp only [Lib.itoa] at hb
 rw [if_neg (by omega)] at hb
 have := digits_all _ b (by simpa using hb)
 simp only [decide_eq_true_eq]
 omega
theorem decS_size {n : Int} (h : 0 ≤ n) : (decS n).size ≠ 0 := by
 have e : (decS n).size = Lib.nDigits n.toNat := by
  rw [← size_toList]
  unfold decS
  simp only [Lib.itoa]
  rw [if_neg (by omega)]
  exact Lib.decDigits_length _
 have := Lib.nDigits_pos n.toNat
 omega
theorem ascB_append {a b : ByteArray} (h : ascB a = true) (k : ascB b = true) : ascB (a ++ b) = true := by
 unfold ascB at *
 rw [ByteArray.data_append, Array.toList_append, List.all_append, h, k]
 rfl
theorem frS_asc {n : Int} (h : 0 ≤ n) : ascB (frS n) = true := ascB_append (decS_asc h) (by decide)
theorem flagS_asc (b : Bool) : ascB (flagS b) = true := by cases b <;> decide
theorem colorS_asc (c : Int) : ascB (colorS c) = true := by unfold colorS; (repeat' split) <;> decide
theorem alignS_asc (a : Int) : ascB (alignS a) = true := by unfold alignS; (repeat' split) <;> decide
theorem kindS_asc (k : Int) : ascB (kindS k) = true := by unfold kindS; (repeat' split) <;> decide
theorem anchorS_asc (b : Bool) : ascB (anchorS b) = true := by cases b <;> decide
theorem rName_asc (r : Int) : ascB (rName r) = true := by unfold rName; (repeat' split) <;> decide
theorem attrsF_ok {al : List (ByteArray × ByteArray)} {n : ByteArray} (hn : xnm n = true) (hf : al.length ≤ 16) (hx : (al.all fun a => xnm a.1) = true) (hv : ∀ a ∈ al, vld a.2 = true) (hd : (al.map (·.1)).Nodup) : ElOk n (attrsF al) :=
 ⟨hn, Nat.le_trans (List.length_filter_le ..) hf, fun a ha => ⟨List.all_eq_true.1 hx a (List.mem_filter.1 ha).1, hv a (List.mem_filter.1 ha).1⟩, hd.sublist ((List.filter_sublist).map _)⟩
theorem elN_ok {n : ByteArray} {al : List (ByteArray × ByteArray)} {k : Nat} (h : ElOk n (attrsF al)) (hk : k ≤ 15) : NdOk (elN n al k) :=
 ⟨hk, fun _ => ⟨h, rfl⟩, fun e => absurd e (xnm_pos h.nm)⟩
structure RunOk (r : Run) : Prop where
 text : vld r.text = true
 some_ : r.text.size ≠ 0
 c0 : 0 ≤ r.color
 c6 : r.color ≤ 6
 ruby : vld r.ruby = true
structure RegOk (r : Reg) : Prop where
 name : nameB r.name = true
 top : 0 ≤ r.top ∧ r.top ≤ 14
 height : 1 ≤ r.height ∧ r.height ≤ 15
 left : 0 ≤ r.left ∧ r.left ≤ 31
 width : 1 ≤ r.width ∧ r.width ≤ 32
 align : 1 ≤ r.align ∧ r.align ≤ 3
structure EvOk (e : Ev) : Prop where
 id : 1 ≤ e.id ∧ e.id ≤ 1099511627776
 inn : 0 ≤ e.inn ∧ e.inn ≤ 5184000
 out : 0 ≤ e.out ∧ e.out ≤ 5184000
 region : vld e.region = true
 kind : 1 ≤ e.kind ∧ e.kind ≤ 4
 speaker : vld e.speaker = true
 rows : ∀ r ∈ e.rows, r.length ≤ 16 ∧ ∀ x ∈ r, RunOk x
 few : e.rows.length ≤ 4
structure TmOk (d : Doc) : Prop where
 title : vld d.title = true
 lang : vld d.lang = true
 rate : 1 ≤ d.rate ∧ d.rate ≤ 7
 last : 0 ≤ d.last ∧ d.last ≤ 1099511627776
 regs : ∀ r ∈ d.regs, RegOk r
 evs : ∀ e ∈ d.evs, EvOk e
theorem ttN_ok {d : Doc} (h : TmOk d) : NdOk (ttN d) := by
 refine elN_ok (attrsF_ok (by decide) (show 5 ≤ 16 by decide) (by simp [ttA]; decide) (fun a ha => ?_) (by simp [ttA]; decide)) (by decide)
 simp only [ttA, List.mem_cons, List.not_mem_nil, or_false] at ha
 rcases ha with rfl | rfl | rfl | rfl | rfl
 · exact h.title
 · exact h.lang
 · exact vld_asc (rName_asc _)
 · exact vld_asc (flagS_asc _)
 · exact vld_asc (decS_asc h.last.1)
theorem regN_ok {r : Reg} (h : RegOk r) : NdOk (regN r) := by
 refine elN_ok (attrsF_ok (by decide) (show 7 ≤ 16 by decide) (by simp [regA]; decide) (fun a ha => ?_) (by simp [regA]; decide)) (by decide)
 simp only [regA, List.mem_cons, List.not_mem_nil, or_false] at ha
 rcases ha with rfl | rfl | rfl | rfl | rfl | rfl | rfl
 · exact vld_asc (nameB_asc h.name)
 · exact vld_asc (decS_asc h.top.1)
 · exact vld_asc (decS_asc (by have := h.height.1; omega))
 · exact vld_asc (decS_asc h.left.1)
 · exact vld_asc (decS_asc (by have := h.width.1; omega))
 · exact vld_asc (alignS_asc _)
 · exact vld_asc (anchorS_asc _)
theorem evN_ok {e : Ev} (h : EvOk e) : NdOk (evN e) := by
 refine elN_ok (attrsF_ok (by decide) (show 6 ≤ 16 by decide) (by simp [evA]; decide) (fun a ha => ?_) (by simp [evA]; decide)) (by decide)
 simp only [evA, List.mem_cons, List.not_mem_nil, or_false] at ha
 rcases ha with rfl | rfl | rfl | rfl | rfl | rfl
 · exact vld_asc (decS_asc (by have := h.id.1; omega))
 · exact vld_asc (frS_asc h.inn.1)
 · exact vld_asc (frS_asc h.out.1)
 · exact h.region
 · exact vld_asc (kindS_asc _)
 · exact h.speaker
theorem rowN_ok : NdOk rowN := elN_ok (attrsF_ok (by decide) (by decide) rfl (fun a ha => by simp at ha) (by simp)) (by decide)
theorem runN_ok {r : Run} (h : RunOk r) : NdOk (runN r) := by
 refine elN_ok (attrsF_ok (by decide) (show 4 ≤ 16 by decide) (by simp [runA]; decide) (fun a ha => ?_) (by simp [runA]; decide)) (by decide)
 simp only [runA, List.mem_cons, List.not_mem_nil, or_false] at ha
 rcases ha with rfl | rfl | rfl | rfl
 · exact vld_asc (colorS_asc _)
 · exact vld_asc (flagS_asc _)
 · exact vld_asc (flagS_asc _)
 · exact h.ruby
theorem txtN_ok {r : Run} (h : RunOk r) : NdOk (txtN r) := ⟨by show 4 ≤ 15; decide, fun e => absurd rfl e, fun _ => ⟨rfl, h.some_, h.text, rfl⟩⟩
def Stand (p : Nd) (k : Nat) : Prop := 1 ≤ k ∧ k ≤ if p.name.size ≠ 0 then p.depth + 1 else p.depth
theorem Stand.behind {p : Nd} {n : ByteArray} {al : List (ByteArray × ByteArray)} {k : Nat} (h : Stand p k) (hn : n.size ≠ 0) : Behind p (elN n al k) := ⟨h.1, h.2, fun e => absurd e hn⟩
theorem runs_good : ∀ {l : Row} {p : Nd}, Stand p 3 → (∀ x ∈ l, RunOk x) → GoodFrom (some p) (runNs l) ∧ ∀ q, ((runNs l).getLast?.or (some p)) = some q → q = p ∨ Stand q 3
 | [], p, h, _ => ⟨trivial, fun q hq => .inl (by simpa [runNs] using hq.symm)⟩
 | x :: l, p, h, hl => by
  have e : runNs (x :: l) = runN x :: txtN x :: runNs l := rfl
  have hs : Stand (txtN x) 3 := ⟨by decide, by show 3 ≤ if (0 : Nat) ≠ 0 then 5 else 4; decide⟩
  obtain ⟨h1, h2⟩ := runs_good (p := txtN x) hs fun y hy => hl y (List.mem_cons_of_mem _ hy)
  have hx := hl x (List.mem_cons_self ..)
  rw [e]
  refine ⟨⟨h.behind (by decide), runN_ok hx, ⟨⟨by show 1 ≤ 4; decide, by show 4 ≤ if (3 : Nat) ≠ 0 then 4 else 3; decide, fun _ hh => absurd hh.1 (by show ¬ (3 : Nat) = 0; decide)⟩, txtN_ok hx, h1⟩⟩, fun q hq => ?_⟩
  have : ((runNs l).getLast?.or (some (txtN x))) = some q := by
   cases hr : runNs l with
   | nil => rw [hr] at hq; simpa using hq
   | cons a b =>
    rw [hr] at hq
    rw [List.getLast?_cons_cons, List.getLast?_cons_cons] at hq
    cases hg : (a :: b).getLast? with
    | none => simp at hg
    | some z => rw [hg] at hq; simpa using hq
  rcases h2 q this with rfl | h3
  · exact .inr hs
  · exact .inr h3
theorem Stand.le {p : Nd} {j k : Nat} (h : Stand p k) (hj : 1 ≤ j) (hk : j ≤ k) : Stand p j := ⟨hj, Nat.le_trans hk h.2⟩
theorem rows_good : ∀ {l : List Row} {p : Nd}, Stand p 2 → (∀ r ∈ l, ∀ x ∈ r, RunOk x) → GoodFrom (some p) (rowNs l) ∧ ∀ q, ((rowNs l).getLast?.or (some p)) = some q → q = p ∨ Stand q 2
 | [], p, h, _ => ⟨trivial, fun q hq => .inl (by simpa [rowNs] using hq.symm)⟩
 | r :: l, p, h, hl => by
  have e : rowNs (r :: l) = (rowN :: runNs r) ++ rowNs l := rfl
  have hs : Stand rowN 3 := ⟨by decide, by show 3 ≤ if (3 : Nat) ≠ 0 then 3 else 2; decide⟩
  obtain ⟨h1, h2⟩ := runs_good (p := rowN) hs fun y hy => hl r (List.mem_cons_self ..) y hy
  have hq : ∃ q, ((rowN :: runNs r).getLast?.or (some p)) = some q ∧ Stand q 2 := by
   cases hr : runNs r with
   | nil => exact ⟨rowN, by simp, hs.le (by decide) (by decide)⟩
   | cons a b =>
    obtain ⟨q, hq⟩ : ∃ q, (a :: b).getLast? = some q := by cases hg : (a :: b).getLast? with | none => simp at hg | some z => exact ⟨z, rfl⟩
    refine ⟨q, by rw [List.getLast?_cons_cons, hq]; rfl, ?_⟩
    rcases h2 q (by rw [hr, hq]; rfl) with rfl | h3
    · exact hs.le (by decide) (by decide)
    · exact h3.le (by decide) (by decide)
  obtain ⟨q, hq1, hq2⟩ := hq
  obtain ⟨h3, h4⟩ := rows_good (p := q) hq2 fun y hy => hl y (List.mem_cons_of_mem _ hy)
  rw [e]
  refine ⟨GoodFrom.append ⟨h.behind (by decide), rowN_ok, h1⟩ (by rw [hq1]; exact h3), fun z hz => ?_⟩
  rw [List.getLast?_append, Option.or_assoc, hq1] at hz
  rcases h4 z hz with rfl | h5
  · exact .inr hq2
  · exact .inr h5
theorem evs_good : ∀ {l : List Ev} {p : Nd}, Stand p 1 → (∀ e ∈ l, EvOk e) → GoodFrom (some p) (evNs l)
 | [], p, h, _ => trivial
 | e :: l, p, h, hl => by
  have e1 : evNs (e :: l) = (evN e :: rowNs e.rows) ++ evNs l := rfl
  have hs : Stand (evN e) 2 := ⟨by decide, by show 2 ≤ if (1 : Nat) ≠ 0 then 2 else 1; decide⟩
  have he := hl e (List.mem_cons_self ..)
  obtain ⟨h1, h2⟩ := rows_good (p := evN e) hs fun r hr => (he.rows r hr).2
  have hq : ∃ q, ((evN e :: rowNs e.rows).getLast?.or (some p)) = some q ∧ Stand q 1 := by
   cases hr : rowNs e.rows with
   | nil => exact ⟨evN e, by simp, hs.le (by decide) (by decide)⟩
   | cons a b =>
    obtain ⟨q, hq⟩ : ∃ q, (a :: b).getLast? = some q := by cases hg : (a :: b).getLast? with | none => simp at hg | some z => exact ⟨z, rfl⟩
    refine ⟨q, by rw [List.getLast?_cons_cons, hq]; rfl, ?_⟩
    rcases h2 q (by rw [hr, hq]; rfl) with rfl | h3
    · exact hs.le (by decide) (by decide)
    · exact h3.le (by decide) (by decide)
  obtain ⟨q, hq1, hq2⟩ := hq
  rw [e1]
  exact GoodFrom.append ⟨h.behind (by decide), evN_ok he, h1⟩ (by rw [hq1]; exact evs_good hq2 fun y hy => hl y (List.mem_cons_of_mem _ hy))
theorem regs_good : ∀ {l : List Reg} {p : Nd}, Stand p 1 → (∀ r ∈ l, RegOk r) → GoodFrom (some p) (l.map regN) ∧ ∀ q, ((l.map regN).getLast?.or (some p)) = some q → Stand q 1
 | [], p, h, _ => ⟨trivial, fun q hq => by simp at hq; subst hq; exact h⟩
 | r :: l, p, h, hl => by
  have hs : Stand (regN r) 1 := ⟨by decide, by show 1 ≤ if (6 : Nat) ≠ 0 then 2 else 1; decide⟩
  obtain ⟨h1, h2⟩ := regs_good (p := regN r) hs fun y hy => hl y (List.mem_cons_of_mem _ hy)
  refine ⟨⟨h.behind (by decide), regN_ok (hl r (List.mem_cons_self ..)), h1⟩, fun q hq => h2 q ?_⟩
  rw [List.map_cons] at hq
  cases hr : l.map regN with
  | nil => rw [hr] at hq; simpa using hq
  | cons a b =>
   rw [hr, List.getLast?_cons_cons] at hq
   cases hg : (a :: b).getLast? with
   | none => simp at hg
   | some z => rw [hg] at hq; simpa using hq
theorem nodes_good {d : Doc} (h : TmOk d) (hf : (nodesL d).length ≤ 8192) : GoodL (nodesL d) := by
 refine ⟨by simp [nodesL], hf, ⟨rfl, by show (2 : Nat) ≠ 0; decide⟩, ttN_ok h, ?_⟩
 have hs : Stand (ttN d) 1 := ⟨by decide, by show 1 ≤ if (2 : Nat) ≠ 0 then 1 else 0; decide⟩
 obtain ⟨h1, h2⟩ := regs_good hs h.regs
 refine GoodFrom.append h1 ?_
 cases hq : ((d.regs.map regN).getLast?.or (some (ttN d))) with
 | none => cases hr : (d.regs.map regN).getLast? <;> simp [hr] at hq
 | some q => exact evs_good (h2 q hq) h.evs
theorem flatMap_len_le {α β : Type} (f : α → List β) (c : Nat) : ∀ (l : List α), (∀ x ∈ l, (f x).length ≤ c) → (l.flatMap f).length ≤ l.length * c
 | [], _ => by simp
 | x :: l, h => by
  rw [List.flatMap_cons, List.length_append, List.length_cons, Nat.succ_mul]
  have h1 := h x (List.mem_cons_self ..)
  have h2 := flatMap_len_le f c l fun y hy => h y (List.mem_cons_of_mem _ hy)
  omega
theorem nodes_few {d : Doc} (h : TmOk d) (hr : d.regs.length ≤ 4) (he : d.evs.length ≤ 4) : (nodesL d).length ≤ 8192 := by
 have h1 : (evNs d.evs).length ≤ d.evs.length * 133 := by
  refine flatMap_len_le _ 133 _ fun e hm => ?_
  have he := h.evs e hm
  have h2 : (rowNs e.rows).length ≤ e.rows.length * 33 := by
   refine flatMap_len_le _ 33 _ fun r hr => ?_
   have h3 : (runNs r).length ≤ r.length * 2 := flatMap_len_le _ 2 _ fun _ _ => by simp
   have := (he.rows r hr).1
   simp only [List.length_cons]
   omega
  have := he.few
  simp only [List.length_cons]
  omega
 simp only [nodesL, List.length_cons, List.length_append, List.length_map]
 omega
theorem runsErr_zero : ∀ {l : Row} {p : Option Run}, runsErr p l = 0 → (∀ x ∈ l, 0 ≤ x.color) → ∀ x ∈ l, RunOk x
 | [], _, _, _, _, hx => by simp at hx
 | y :: l, p, h, hc, x, hx => by
  unfold runsErr at h
  split at h
  · rename_i h1
    rcases List.mem_cons.1 hx with rfl | hx
    · unfold runErr at h1
      split at h1
      · omega
      · rename_i a
        split at h1
        · omega
        · rename_i b
          split at h1
          · omega
          · rename_i c
            split at h1
            · omega
            · rename_i e
              exact ⟨by simpa using a, fun e => b (List.eq_nil_of_length_eq_zero (by rw [ByteArray.toList_eq, size_toList, e])), hc x (List.mem_cons_self ..), by omega, by simpa using e⟩
    · exact runsErr_zero h (fun z hz => hc z (List.mem_cons_of_mem _ hz)) x hx
  · rename_i h1; exact absurd h h1
theorem opt_name {s : ByteArray} (h : ¬ (s.toList.isEmpty = false ∧ nameB s = false)) : vld s = true := by
 cases hn : nameB s with
 | true => exact vld_asc (nameB_asc hn)
 | false =>
  have : s.toList.isEmpty = true := by cases he : s.toList.isEmpty <;> simp_all
  have e : s = ByteArray.empty := by
   have h0 : s.toList = [] := by simpa using this
   rw [ByteArray.toList_eq] at h0
   cases s with
   | mk a => cases a with | mk l => simp only at h0; subst h0; rfl
  rw [e]
  exact vld_asc (by decide)
theorem tm_regs : ∀ {l : List Reg} {p : Option ByteArray}, regsLoop p l = 0 → ∀ r ∈ l, r.check = 0
 | [], _, _, r, hr => by simp at hr
 | x :: l, p, h, r, hr => by
  unfold regsLoop at h
  split at h
  · rename_i h1; exact absurd h h1
  · rename_i h1
    split at h
    · omega
    · split at h
      · omega
      · rcases List.mem_cons.1 hr with rfl | hr
        · omega
        · exact tm_regs h r hr
theorem RegOk.of {r : Reg} (h : r.check = 0) : RegOk r := by
 unfold Reg.check at h
 split at h
 · omega
 · rename_i h1
   split at h
   · omega
   · rename_i h2
     split at h
     · omega
     · rename_i h3
       have h2' : r.inGrid := by simpa using h2
       obtain ⟨a, b, c, e⟩ := h2'
       exact ⟨by simpa using h1, a, by omega, c, by omega, by omega⟩
theorem tm_ok {d : Doc} (h : d.err = 0) (hc : ∀ e ∈ d.evs, ∀ r ∈ e.rows, ∀ x ∈ r, 0 ≤ x.color) : TmOk d := by
 obtain ⟨h1, h2, -, h4, -, -⟩ := doc_ok h
 obtain ⟨a1, -, a3, a4, a5⟩ := head_ok' h1
 have hr : ∀ r ∈ d.regs, r.check = 0 := by
  unfold regsErr at h2
  split at h2
  · omega
  · exact tm_regs h2
 refine ⟨a1, opt_name a3, ?_, a5, fun r hm => RegOk.of (hr r hm), fun e he => ?_⟩
 · unfold rateOkB rOk at a4
   simp only [Bool.and_eq_true, decide_eq_true_eq] at a4
   exact a4.1
 · obtain ⟨k, hk⟩ := List.getElem?_of_mem he
   have ho := Ev.ok_of (evs_ok h4 k e hk).1
   have hs := ho.span
   unfold spansB at hs
   simp only [decide_eq_true_eq] at hs
   have hkd := ho.kind
   unfold noKind at hkd
   simp only [decide_eq_false_iff_not] at hkd
   obtain ⟨r, hf, -⟩ := ho.found
   refine ⟨⟨ho.id1, ho.id2⟩, by omega, by omega, ?_, by omega, opt_name ho.name, fun r hr => ?_, ho.few⟩
   · unfold findR at hf
     split at hf
     · rename_i hn
       exact opt_name (by simp [hn])
     · have hm := List.mem_of_find?_eq_some hf
       have hq := List.find?_some hf
       have e1 : r.name.toList = e.region.toList := by simpa using hq
       have e2 : r.name = e.region := by
        rw [ByteArray.toList_eq, ByteArray.toList_eq] at e1
        exact ByteArray.ext (Array.ext' e1)
       rw [← e2]
       exact vld_asc (nameB_asc (RegOk.of (hr r hm)).name)
   · have hz := ho.rows r hr
     unfold rowErrE at hz
     split at hz
     · rename_i hne; exact absurd hz hne
     · rename_i hne
       have h0 : rowErr r = 0 := by omega
       unfold rowErr at h0
       split at h0
       · omega
       · exact ⟨by omega, runsErr_zero h0 (hc e he r hr)⟩
theorem bare_ok {d : Doc} (h : d.err = 0) : ({ d with coms := [] } : Doc).err = 0 := by
 obtain ⟨h1, h2, h3, h4, -, -⟩ := doc_ok h
 have h1' : ({ d with coms := [] } : Doc).headErr = 0 := h1
 unfold Doc.err
 rw [if_neg (by rw [h1']; simp), if_neg (by show ¬ regsErr d.regs ≠ 0; omega), if_neg (by show ¬ 400 < d.evs.length; omega), if_neg (by show ¬ evsLoop d.regs d.last [] d.evs ≠ 0; omega), if_neg (by show ¬ 64 < 0; omega)]
 rfl
theorem bare_nodes (d : Doc) : nodesL { d with coms := [] } = nodesL d := rfl
def Doc.zero : Doc := ⟨ByteArray.empty, ByteArray.empty, 0, false, 0, [], [], []⟩
def attrV (al : List (ByteArray × ByteArray)) (n : ByteArray) : ByteArray := ((al.find? fun a => decide (a.1 = n)).map (·.2)).getD ByteArray.empty
theorem empty_of_size {s : ByteArray} (h : s.size = 0) : s = ByteArray.empty := by
 have h0 : s.data.toList = [] := List.eq_nil_of_length_eq_zero (by rw [size_toList, h])
 cases s with
 | mk a => cases a with | mk l => simp only at h0; subst h0; rfl
theorem attrV_filter {al : List (ByteArray × ByteArray)} (hd : (al.map (·.1)).Nodup) {n v : ByteArray} (h : (n, v) ∈ al) : attrV (attrsF al) n = v := by
 induction al with
 | nil => simp at h
 | cons a al ih =>
  rw [List.map_cons, List.nodup_cons] at hd
  unfold attrsF attrV
  rw [List.filter_cons]
  by_cases hs : a.2.size = 0
  · rw [if_neg (by simp [hs])]
    rcases List.mem_cons.1 h with rfl | h
    · have hno : ((al.filter fun a => decide (a.2.size ≠ 0)).find? fun a => decide (a.1 = n)) = none := by
       rw [List.find?_eq_none]
       intro x hx hxn
       simp only [decide_eq_true_eq] at hxn
       exact hd.1 (List.mem_map.2 ⟨x, (List.mem_filter.1 hx).1, hxn⟩)
      rw [hno]
      exact (empty_of_size hs).symm
    · exact ih hd.2 h
  · rw [if_pos (by simpa using hs), List.find?_cons]
    rcases List.mem_cons.1 h with rfl | h
    · simp
    · have hne : a.1 ≠ n := fun e => hd.1 (List.mem_map.2 ⟨(n, v), h, e.symm⟩)
      rw [show decide (a.1 = n) = false from decide_eq_false hne]
      exact ih hd.2 h
inductive Adds : Doc → List ByteArray → List Nd → Doc → Prop
 | nil (D : Doc) (o : List ByteArray) : Adds D o [] D
 | tt {o l D'} (d : Doc) : TmOk d → Adds { d with regs := [], evs := [], coms := [] } [sTt] l D' → Adds Doc.zero o (ttN d :: l) D'
 | reg {D o l D'} (r : Reg) : RegOk r → o.take 1 = [sTt] → D.evs = [] → Adds { D with regs := D.regs ++ [r] } [sTt, sRegion] l D' → Adds D o (regN r :: l) D'
 | ev {D o l D'} (e : Ev) : EvOk e → o.take 1 = [sTt] → Adds { D with evs := D.evs ++ [{ e with rows := [] }] } [sTt, sP] l D' → Adds D o (evN e :: l) D'
 | row {D o l D'} (es : List Ev) (e : Ev) : o.take 2 = [sTt, sP] → D.evs = es ++ [e] → Adds { D with evs := es ++ [{ e with rows := e.rows ++ [[]] }] } [sTt, sP, sRow] l D' → Adds D o (rowN :: l) D'
 | run {D o l D'} (es : List Ev) (e : Ev) (rs : List Row) (r : Row) (x : Run) : RunOk x → o.take 3 = [sTt, sP, sRow] → D.evs = es ++ [e] → e.rows = rs ++ [r] → Adds { D with evs := es ++ [{ e with rows := rs ++ [r ++ [{ x with text := ByteArray.empty }]] }] } [sTt, sP, sRow, sRun] l D' → Adds D o (runN x :: l) D'
 | txt {D o l D'} (es : List Ev) (e : Ev) (rs : List Row) (r : Row) (x : Run) : RunOk x → o.take 4 = [sTt, sP, sRow, sRun] → D.evs = es ++ [e] → e.rows = rs ++ [r ++ [{ x with text := ByteArray.empty }]] → Adds { D with evs := es ++ [{ e with rows := rs ++ [r ++ [x]] }] } [sTt, sP, sRow, sRun, ByteArray.empty] l D' → Adds D o (txtN x :: l) D'
theorem runs_add {es : List Ev} {e : Ev} {rs : List Row} {K : List Nd} {D' : Doc} : ∀ {l r : Row} {D : Doc} {o : List ByteArray}, (∀ x ∈ l, RunOk x) → D.evs = es ++ [e] → e.rows = rs ++ [r] → o.take 3 = [sTt, sP, sRow] →
 (∀ o', o'.take 3 = [sTt, sP, sRow] → Adds { D with evs := es ++ [{ e with rows := rs ++ [r ++ l] }] } o' K D') → Adds D o (runNs l ++ K) D'
 | [], r, D, o, _, hD, he, ho, hk => by
  have e1 : { D with evs := es ++ [{ e with rows := rs ++ [r ++ []] }] } = D := by
   rw [List.append_nil, ← he, ← hD]
  have := hk o ho
  rw [e1] at this
  exact this
 | x :: l, r, D, o, hl, hD, he, ho, hk => by
  have e1 : runNs (x :: l) ++ K = runN x :: txtN x :: (runNs l ++ K) := rfl
  rw [e1]
  have hx := hl x (List.mem_cons_self ..)
  refine .run es e rs r x hx ho hD he (.txt es { e with rows := rs ++ [r ++ [{ x with text := ByteArray.empty }]] } rs r x hx rfl rfl rfl ?_)
  refine runs_add (es := es) (e := { e with rows := rs ++ [r ++ [x]] }) (rs := rs) (r := r ++ [x]) (fun y hy => hl y (List.mem_cons_of_mem _ hy)) rfl rfl rfl fun o' ho' => ?_
  have := hk o' ho'
  rw [List.append_assoc]
  exact this
theorem rows_add {es : List Ev} {K : List Nd} {D' : Doc} : ∀ {l : List Row} {e : Ev} {D : Doc} {o : List ByteArray}, (∀ r ∈ l, ∀ x ∈ r, RunOk x) → D.evs = es ++ [e] → o.take 2 = [sTt, sP] →
 (∀ o', o'.take 2 = [sTt, sP] → Adds { D with evs := es ++ [{ e with rows := e.rows ++ l }] } o' K D') → Adds D o (rowNs l ++ K) D'
 | [], e, D, o, _, hD, ho, hk => by
  have e1 : { D with evs := es ++ [{ e with rows := e.rows ++ [] }] } = D := by
   rw [List.append_nil, ← hD]
  have := hk o ho
  rw [e1] at this
  exact this
 | r :: l, e, D, o, hl, hD, ho, hk => by
  have e1 : rowNs (r :: l) ++ K = rowN :: (runNs r ++ (rowNs l ++ K)) := by
   simp [rowNs]
  rw [e1]
  refine .row es e ho hD ?_
  refine runs_add (es := es) (e := { e with rows := e.rows ++ [[]] }) (rs := e.rows) (r := []) (fun x hx => hl r (List.mem_cons_self ..) x hx) rfl rfl rfl fun o' ho' => ?_
  rw [List.nil_append]
  refine rows_add (es := es) (e := { e with rows := e.rows ++ [r] }) (fun y hy => hl y (List.mem_cons_of_mem _ hy)) rfl (by have h := congrArg (List.take 2) ho'; rw [List.take_take] at h; exact h) fun o'' ho'' => ?_
  have := hk o'' ho''
  rw [List.append_assoc]
  exact this
theorem evs_add {D' : Doc} : ∀ {l : List Ev} {D : Doc} {o : List ByteArray}, (∀ e ∈ l, EvOk e) → o.take 1 = [sTt] → D' = { D with evs := D.evs ++ l } → Adds D o (evNs l) D'
 | [], D, o, _, _, h => by rw [h, List.append_nil]; exact .nil _ _
 | e :: l, D, o, hl, ho, h => by
  have e1 : evNs (e :: l) = evN e :: (rowNs e.rows ++ evNs l) := rfl
  rw [e1]
  have he := hl e (List.mem_cons_self ..)
  refine .ev e he ho ?_
  refine rows_add (es := D.evs) (e := { e with rows := [] }) (fun r hr => (he.rows r hr).2) rfl rfl fun o' ho' => ?_
  rw [List.nil_append]
  refine evs_add (fun y hy => hl y (List.mem_cons_of_mem _ hy)) (by have h := congrArg (List.take 1) ho'; rw [List.take_take] at h; exact h) ?_
  rw [h, List.append_assoc]
  rfl
theorem regs_add {D' : Doc} {K : List Nd} : ∀ {l : List Reg} {D : Doc} {o : List ByteArray}, (∀ r ∈ l, RegOk r) → o.take 1 = [sTt] → D.evs = [] →
 (∀ o', o'.take 1 = [sTt] → Adds { D with regs := D.regs ++ l } o' K D') → Adds D o (l.map regN ++ K) D'
 | [], D, o, _, ho, _, hk => by
  have := hk o ho
  rw [List.append_nil] at this
  exact this
 | r :: l, D, o, hl, ho, hD, hk => by
  refine .reg r (hl r (List.mem_cons_self ..)) ho hD ?_
  refine regs_add (D := { D with regs := D.regs ++ [r] }) (fun y hy => hl y (List.mem_cons_of_mem _ hy)) rfl hD fun o' ho' => ?_
  have := hk o' ho'
  rw [List.append_assoc]
  exact this
theorem nodes_add {d : Doc} (h : TmOk d) : Adds Doc.zero [] (nodesL d) { d with coms := [] } := by
 refine .tt d h (regs_add h.regs rfl rfl fun o' ho' => ?_)
 rw [List.nil_append]
 exact evs_add h.evs ho' rfl
end
section
open Go.RowKit
def NdC (w : World) (b o : Nat) (x : Nd) : Prop := ∃ A n c, w.cell? ⟨b, o, none⟩ = some (.string x.name) ∧ w.cell? ⟨b, o + 1, none⟩ = some (.string x.text) ∧ w.cell? ⟨b, o + 2, none⟩ = some (.slice A n c) ∧ w.cell? ⟨b, o + 3, none⟩ = some (.int .i64 (x.depth : Int)) ∧ n ≤ c ∧ AttrsAt w A n x.attrs
theorem NdC.stays : Stays NdC := fun _ _ _ _ _ k ⟨A, n, c, h1, h2, h3, h4, h5, h6⟩ => ⟨A, n, c, k.cell h1, k.cell h2, k.cell h3, k.cell h4, h5, h6.ext k⟩
def NodesAt (w : World) (A : Option Addr) (n : Nat) (l : List Nd) : Prop := Sl w 4 NdC A n l
theorem NodesAt.ext {w w1 : World} {A : Option Addr} {n : Nat} {l : List Nd} (h : NodesAt w A n l) (k : Ext w w1) : NodesAt w1 A n l := Sl.ext NdC.stays h k
theorem NodesAt.at' {w : World} {A : Option Addr} {n : Nat} {l : List Nd} (h : NodesAt w A n l) {i : Nat} (hi : i < n) : ∃ b off x, A = some ⟨b, off, none⟩ ∧ l[i]? = some x ∧ NdC w b (off + i * 4) x := h.at_ hi
theorem NodesOwn.at' {w : World} {L : Nat} {v : Value} {l : List Nd} (h : NodesOwn w L v l) : ∃ A c, v = .slice A l.length c ∧ l.length ≤ c ∧ NodesAt w A l.length l := by
 obtain ⟨hs, h1, h2, h3⟩ := h
 obtain ⟨A, c, rfl, hc, -, hS, -⟩ := own_sl (f := NdH.vals) (size := 4) NdH.len h2 h1
 refine ⟨A, c, rfl, hc, rfl, fun hn => ?_⟩
 obtain ⟨b, off, rfl, hk⟩ := hS.2 hn
 refine ⟨b, off, rfl, fun i x hx => ?_⟩
 have hi : i < hs.length := by rw [h2]; exact (List.getElem?_eq_some_iff.1 hx).1
 have hh := List.getElem?_eq_getElem hi
 obtain ⟨g1, g2, g3, g4⟩ := h3 i _ x hh hx
 have hC := hk i _ hh
 obtain ⟨A', c', hv, hc', -, hS', -⟩ := own_sl (f := attrVs) (size := 2) (fun _ => rfl) rfl g4
 refine ⟨A', x.attrs.length, c', ?_, ?_, ?_, ?_, hc', hS'⟩
 · have := hC 0 _ rfl
   rw [← g1]; simpa using this
 · rw [← g2]; exact hC 1 _ rfl
 · rw [← hv]; exact hC 2 _ rfl
 · rw [← g3]; exact hC 3 _ rfl
theorem good_at {l : List Nd} (h : GoodFrom none l) {i : Nat} {x : Nd} (hx : l[i]? = some x) : NdOk x ∧ (i = 0 → x.depth = 0 ∧ x.name.size ≠ 0) ∧ ∀ y, 0 < i → l[i - 1]? = some y → Behind y x := by
 refine ⟨h.ok x (List.mem_of_getElem? hx), fun h0 => ?_, fun y h0 hy => ?_⟩
 · subst h0
   cases l with
   | nil => simp at hx
   | cons z l => simp at hx; subst hx; exact h.1
 · exact h.at_ (i - 1) y x hy (by rw [Nat.sub_add_cancel h0]; exact hx)
theorem str_ne {s : ByteArray} (h : s.size ≠ 0) : s.toList.isEmpty = false := by
 cases he : s.toList.isEmpty with
 | false => rfl
 | true =>
  have : s.toList = [] := by simpa using he
  rw [ByteArray.toList_eq] at this
  exact absurd (by rw [← size_toList, this]; rfl) h
theorem str_ne2 {s : ByteArray} (h : s.size ≠ 0) : (!s.toList.isEmpty) = true := by rw [str_ne h]; rfl
theorem str_no {s : ByteArray} (h : s.size = 0) : s = (⟨#[]⟩ : ByteArray) := (empty_of_size h).trans (by rfl)
set_option maxHeartbeats 2000000 in
set_option maxRecDepth 100000 in
theorem checkDepth_ok (A : Option Addr) (n c : Nat) (l : List Nd) (i : Nat) (w : World) (hat : NodesAt w A n l) (hg : GoodFrom none l) (hi : i < n) (hn : n ≤ 8192) :
 Calls Tryz.prog 44 #[.slice A n c, .int .i64 i] w fun e w' => e = .returned (.int .i64 0) ∧ w = w' := by
 obtain ⟨b, off, x, rfl, hx, A1, n1, c1, c10, c11, c12, c13, -, -⟩ := hat.at' hi
 obtain ⟨hok, h0, hb⟩ := good_at hg hx
 have hdp := hok.deep
 by_cases hi0 : i = 0
 · subst hi0
   have hd := (h0 rfl).1
   rw [hd] at c13
   clear hat hg hok h0 hb hx
   go_enter Tryz.func44, Tryz.ntmps44
   go_wp2_with fail
   go_ret
   exact ⟨rfl, rfl⟩
 · obtain ⟨b', off', y, hA, hy, A2, n2, c2, c20, c21, c22, c23, -, -⟩ := hat.at' (i := i - 1) (by omega)
   cases hA
   have hbh := hb y (by omega) hy
   have hlo := hbh.low
   have hhi := hbh.high
   have hyd := (good_at hg hy).1.deep
   obtain ⟨ynm, ytx, yat, ydp⟩ := y
   obtain ⟨xnm, xtx, xat, xdp⟩ := x
   dsimp only at *
   have hi1 : (i : Int) - 1 = ((i - 1 : Nat) : Int) := by omega
   have hi2 : ((i : Int) == 0) = false := beq_eq_false_iff_ne.2 (by omega)
   have hi3 : ((i : Int) - 1).toNat = i - 1 := by omega
   have q1 : decide ((xdp : Int) < 1) = false := decide_eq_false (by omega)
   have q2 : decide ((15 : Int) < (xdp : Int)) = false := decide_eq_false (by omega)
   clear hat hg hok h0 hb hx hbh
   by_cases hz : ynm.size = 0
   · have : ynm = (⟨#[]⟩ : ByteArray) := (empty_of_size hz).trans (by rfl)
     subst this
     rw [if_neg (fun h => h rfl)] at hhi
     go_enter Tryz.func44, Tryz.ntmps44
     go_wp2_with fail
     go_ret
     exact ⟨rfl, rfl⟩
   · rw [if_pos hz] at hhi
     have hz2 := str_ne2 hz
     have hz3 := str_ne hz
     go_enter Tryz.func44, Tryz.ntmps44
     go_wp2_with fail
     go_ret
     exact ⟨rfl, rfl⟩
def NdSm (x : Nd) : Prop := x.text.size ≤ 268435456 ∧ ∀ a ∈ x.attrs, a.2.size ≤ 268435456
theorem keyStrX : Go.Maps.Keyed Tryz.prog 9 := Go.Maps.string_keyed Tryz.underlying9
theorem keyStrX_of {s : ByteArray} (h : s.size ≤ 32) : keyOf Tryz.prog 9 (.string s) = some (.string s.data.toList) := WideMaps.keyOf_string_mk Tryz.underlying9 (by unfold maxLen; omega)
theorem zero_boolX (w : World) : (zeroValue 4).run Tryz.prog w = .ok (.bool false) w := by kernel_rfl
def MapN (w : World) (B : Nat) (l : List ByteArray) : Prop := ∃ (n : Nat) (D : DataW Unit), w.ownsMap Tryz.prog 9 (plainElem Tryz.prog 4) B n D ∧ n ≤ l.length ∧ Go.Maps.IsMap D ∧
 ∀ s, s ∉ l → D.atKey (.string s.data.toList) (.lit (.bool false)) = .lit (.bool false)
theorem MapN.made (w : World) : MapN (w.alloc (.map #[] 0)) w.heap.size [] :=
 ⟨0, .map [], Go.World.ownsMap_made w _ _ _, Nat.le_refl _, Go.Maps.isMap_empty, fun _ _ => rfl⟩
theorem MapN.ext {w w1 : World} {B : Nat} {l : List ByteArray} (h : MapN w B l) (q : Ext w w1) : MapN w1 B l := by
 obtain ⟨n, D, ⟨es, cl, h1, h2⟩, h3⟩ := h
 exact ⟨n, D, ⟨es, cl, (q.block B (Array.getElem?_eq_some_iff.1 h1).1).trans h1, h2⟩, h3⟩
theorem MapN.put {w1 : World} {B n : Nat} {l : List ByteArray} {D : DataW Unit} {s : ByteArray} (hn : n ≤ l.length) (hm : Go.Maps.IsMap D) (ha : ∀ s, s ∉ l → D.atKey (.string s.data.toList) (.lit (.bool false)) = .lit (.bool false))
 (h : w1.ownsMap Tryz.prog 9 (plainElem Tryz.prog 4) B (n + 1) (D.put (.string s.data.toList) (.lit (.bool true)))) : MapN w1 B (l ++ [s]) := by
 refine ⟨n + 1, _, h, by simp; omega, hm.put _ _, fun x hx => ?_⟩
 simp only [List.mem_append, List.mem_singleton, not_or] at hx
 rw [Go.Maps.atKey_put_other]
 · exact ha x hx.1
 · intro he
   apply hx.2
   simp only [Lit.string.injEq] at he
   exact ByteArray.ext (Array.ext' he)
theorem plainElem_falseX {v : Value} {ps : List MemPlace} (h : plainElem (H := Unit) Tryz.prog 4 v = some (.lit (.bool false), ps)) : v = .bool false := by
 unfold plainElem at h
 rw [show Tryz.prog.underlying 4 = some .bool from Tryz.underlying4] at h
 cases v <;> simp at h
 rw [h.1]
theorem wpList_lookup_falseX (w : World) {ops : Array Oper} {rest : List Oper} {o : Oper} {a : Act} {Q : Exit → Act → World → Prop} (hg : o.guard = none) (m x : Operand) (hop : o.op = Op.lookup 176 m x false) (b n : Nat) (D : DataW Unit)
 (hm : a.eval m = .map (some b)) (hown : w.ownsMap Tryz.prog 9 (plainElem Tryz.prog 4) b n D) (key : Value) (kl : Lit) (hx : a.eval x = key) (hkey : keyOf Tryz.prog 9 key = some kl)
 (hat : D.atKey kl (.lit (.bool false)) = .lit (.bool false)) (hK : wpList Tryz.prog ops Q rest (a.put o.dst (.bool false)) w) : wpList Tryz.prog ops Q (o :: rest) a w := by
 refine wpList_plain hg fun K' hK' => ?_
 obtain ⟨v, ps, hrun, hv⟩ := hown.lookup keyStrX Tryz.underlying176 (zero_boolX w) (plainElem_bool Tryz.underlying4 false) hkey
 rw [hat] at hv
 obtain rfl := plainElem_falseX hv
 unfold Oper.wp
 simp [execOp, hop, hm, hx, hrun, Result.andThen]
 exact hK' _ _ hK
end
section
open Go.RowKit
def CeRel (W0 : World) (B : Nat) (l : List (ByteArray × ByteArray)) (v : Value) (wr : World) : Prop :=
 ∃ k : Nat, k ≤ l.length ∧ v = .int .i64 k ∧ MapN wr B ((l.take k).map (·.1)) ∧ Ext W0 wr
theorem turned_extX {w0 w w1 : World} {b : Nat} (h : w.mapTurned w1 b) (k : Ext w0 w) (hb : w0.heap.size ≤ b) : Ext w0 w1 := k.grown h.grown (fun q hq => by cases hq; exact hb)
theorem own_mextX {w w1 : World} {B n : Nat} {D : DataW Unit} (h : w.ownsMap Tryz.prog 9 (plainElem Tryz.prog 4) B n D) (k : Ext w w1) : w1.ownsMap Tryz.prog 9 (plainElem Tryz.prog 4) B n D := by
 obtain ⟨es, cl, h1, h2⟩ := h
 exact ⟨es, cl, (k.block B (Array.getElem?_eq_some_iff.1 h1).1).trans h1, h2⟩
theorem xnm_len {s : ByteArray} (h : xnm s = true) : s.size ≤ 32 := by
 obtain ⟨-, c, l, hl, -⟩ := xnm_all h
 unfold xnm xnmL at h
 rw [hl] at h
 simp only [Bool.and_eq_true, decide_eq_true_eq] at h
 have := congrArg List.length hl
 rw [size_toList, List.length_cons] at this
 omega
set_option maxHeartbeats 4000000 in
set_option maxRecDepth 100000 in
theorem checkElement_ok (n : ByteArray) (A : Option Addr) (c : Nat) (al : List (ByteArray × ByteArray)) (dp : Int) (w : World) (hel : ElOk n al) (hat : AttrsAt w A al.length al) (hsm : ∀ a ∈ al, a.2.size ≤ 268435456) (hV : Env w) :
 Calls Tryz.prog 45 #[.agg #[.string n, .string ⟨#[]⟩, .slice A al.length c, .int .i64 dp]] w fun e w' => e = .returned (.int .i64 0) ∧ Ext w w' := by
 have HNm := Lib.hid (fun s w h => XName_ok s w h)
 have HCv : Hid (∀ (t : ByteArray) w', Ext w w' → vld t = true → t.size ≤ 268435456 → Calls Tryz.prog 74 #[.string t] w' fun e w2 => e = .returned (.bool true) ∧ Ext w' w2) := fun t w' hx hv hs => by
  have := Valid_any t w' (hV.ext hx) (by omega)
  rwa [hv] at this
 have HEl := Lib.hid hel
 have HAt := Lib.hid hat
 have HSm := Lib.hid hsm
 have hfew := hel.few
 have hmm := @run_makeMap Tryz.prog
 have HX1 := Lib.hid ((Ext.refl w).alloc (.cells #[.string n, .string ⟨#[]⟩, .slice A al.length c, .int .i64 dp] 87))
 have HB1 := Lib.hid (Blk.new w 87 #[.string n, .string ⟨#[]⟩, .slice A al.length c, .int .i64 dp])
 have hc := fun o => HB1.out.cell o
 clear hel hat hsm hV
 have q1 : decide ((16 : Int) < (al.length : Int)) = false := decide_eq_false (by omega)
 go_enter Tryz.func45, Tryz.ntmps45
 go_wp2_with fail
 refine (HNm.out _ _ HEl.out.nm).mono ?_
 rintro e w2 ⟨rfl, rfl⟩
 obtain ⟨W1, hW1⟩ : ∃ W1, W1 = w.alloc (.cells #[.string n, .string ⟨#[]⟩, .slice A al.length c, .int .i64 dp] 87) := ⟨_, rfl⟩
 rw [← hW1] at HX1 HB1 hc ⊢
 clear hW1
 have HMm := Lib.hid (MapN.made W1)
 have HXm := Lib.hid ((Ext.refl W1).alloc (.map #[] 0))
 have HBm := Lib.hid (HB1.out.ext HXm.out)
 have hcm := fun o => HBm.out.cell o
 have hlt1 := HB1.out.lt
 go_wp2_with fail
 clear hc hcm hmm
 go_loopw [24] (fun v wr => CeRel W1 W1.heap.size al v wr) (fun v _ => al.length - (intOf v).toNat)
 case atStart => exact ⟨0, Nat.zero_le _, rfl, by simpa using HMm.out, HXm.out⟩
 case round =>
  obtain ⟨k, hk, rfl, hM, hx⟩ := hrel
  have HXr := Lib.hid (HX1.out.trans hx)
  have HX1r := Lib.hid hx
  by_cases hlt : k < al.length
  · obtain ⟨g, off, a, rfl, ha, c0, c1⟩ := attr_at (HAt.out.ext HXr.out) hlt
    obtain ⟨hn, hv⟩ := HEl.out.each a (List.mem_of_getElem? ha)
    have hs := HSm.out a (List.mem_of_getElem? ha)
    have hn32 := xnm_len hn
    obtain ⟨nm, D, hown, hnl, hmap, hno⟩ := hM
    have hatk := hno a.1 (fun hm => by
     obtain ⟨j, hj⟩ := List.getElem?_of_mem hm
     rw [List.getElem?_map] at hj
     cases hj2 : (al.take k)[j]? with
     | none => rw [hj2] at hj; simp at hj
     | some y =>
      rw [hj2] at hj
      simp only [Option.map_some, Option.some.injEq] at hj
      have hjk : j < k := by have := (List.getElem?_eq_some_iff.1 hj2).1; rw [List.length_take] at this; omega
      rw [List.getElem?_take_of_lt hjk] at hj2
      have := dist_ne HEl.out.dist hj2 ha hjk
      rw [hj] at this
      simp at this)
    have HTk : Hid ((al.take (k + 1)).map (·.1) = (al.take k).map (·.1) ++ [a.1]) := by show _ = _; rw [take_snoc' al k a ha, List.map_append]; rfl
    have hnm : nm < maxLen := by
     rw [List.length_map, List.length_take] at hnl
     simp [maxLen]; omega
    have HOw := Lib.hid hown
    have HNl := Lib.hid hnl
    have HMp := Lib.hid hmap
    have HNo := Lib.hid hno
    have HAk := Lib.hid hatk
    have HN := Lib.hid hn
    have HVl := Lib.hid hv
    clear hown hnl hmap hno hatk hn hv hx ha
    go_wp2_with fail
    have HXb := Lib.hid ((Ext.refl wr).alloc (.cells #[.string a.1, .string a.2] 69))
    have HBb := Lib.hid (Blk.new wr 69 #[.string a.1, .string a.2])
    refine (HNm.out _ _ HN.out).mono ?_
    rintro e w2 ⟨rfl, rfl⟩
    obtain ⟨Wb, hWb⟩ : ∃ Wb, Wb = wr.alloc (.cells #[.string a.1, .string a.2] 69) := ⟨_, rfl⟩
    rw [← hWb] at HXb HBb ⊢
    clear hWb
    have hcb := fun o => HBb.out.cell o
    have HOb := Lib.hid (own_mextX HOw.out HXb.out)
    go_wp2_with (at_lookup; refine wpList_lookup_falseX _ rfl _ _ rfl W1.heap.size nm D rfl (by exact HOb.out) _ _ rfl (by exact keyStrX_of hn32) HAk.out ?_)
    refine (HCv.out a.2 _ (HXr.out.trans HXb.out) HVl.out hs).mono ?_
    rintro e w3 ⟨rfl, hx3⟩
    have HX3 := Lib.hid hx3
    have hcc := fun o => (HBb.out.ext hx3).cell o
    clear hx3 hcb
    go_wp2_with (at_mapUpdate; refine wpList_mapUpdate_in _ rfl _ _ _ 176 rfl 9 4 keyStrX Tryz.underlying176 (plainElem Tryz.prog 4) W1.heap.size nm D rfl (by exact own_mextX HOb.out HX3.out) hnm _ _ (.string a.1.data.toList) rfl rfl (by exact keyStrX_of hn32) (.lit (.bool true)) [] (plainElem_bool Tryz.underlying4 true) ?_; intro w10 hown1 hturn1)
    exact ⟨⟨k + 1, by omega, by go_num, by rw [HTk.out]; exact MapN.put HNl.out HMp.out HNo.out hown1, turned_extX hturn1 (HX1r.out.trans (HXb.out.trans HX3.out)) (Nat.le_refl _)⟩, by simp [intOf]; omega⟩
  · have ek : k = al.length := by omega
    subst ek
    go_wp2_with fail
    go_ret
    exact ⟨rfl, HXr.out⟩
set_option maxHeartbeats 4000000 in
set_option maxRecDepth 100000 in
theorem checkText_ok (A : Option Addr) (n c : Nat) (l : List Nd) (i : Nat) (x : Nd) (w : World) (hat : NodesAt w A n l) (hg : GoodFrom none l) (hi : i < n) (hn : n ≤ 8192) (hxi : l[i]? = some x) (hx0 : x.name.size = 0) (hsm : NdSm x) (hV : Env w) :
 Calls Tryz.prog 46 #[.slice A n c, .int .i64 i] w fun e w' => e = .returned (.int .i64 0) ∧ Ext w w' := by
 obtain ⟨b, off, x', rfl, hx, A1, n1, c1, c10, c11, c12, c13, hnc, hA1⟩ := hat.at' hi
 rw [hxi] at hx
 cases hx
 obtain ⟨hok, h0, hb⟩ := good_at hg hxi
 obtain ⟨hta, hts, htv, -⟩ := hok.tx hx0
 have hn1 : n1 = 0 := by rw [← hA1.len, hta]; rfl
 subst hn1
 have hi0 : 0 < i := Nat.pos_of_ne_zero fun h => (h0 h).2 hx0
 obtain ⟨b', off', y, hA, hy, A2, n2, c2, c20, c21, c22, c23, -, -⟩ := hat.at' (i := i - 1) (by omega)
 cases hA
 have hbh := hb y hi0 hy
 have hap := hbh.apart hx0
 have hyd := (good_at hg hy).1.deep
 have hdp := hok.deep
 have hts2 := str_ne hts
 have HCv : Hid (∀ w', Ext w w' → Calls Tryz.prog 74 #[.string x.text] w' fun e w2 => e = .returned (.bool true) ∧ Ext w' w2) := fun w' hx => by
  have := Valid_any x.text w' (hV.ext hx) (by have := hsm.1; omega)
  rwa [htv] at this
 obtain ⟨ynm, ytx, yat, ydp⟩ := y
 obtain ⟨xnm, xtx, xat, xdp⟩ := x
 dsimp only at *
 have hi1 : (i : Int) - 1 = ((i - 1 : Nat) : Int) := by omega
 have hi2 : ((i : Int) == 0) = false := beq_eq_false_iff_ne.2 (by omega)
 have hi3 : ((i : Int) - 1).toNat = i - 1 := by omega
 clear hat hg hok h0 hb hxi hbh hta htv hsm hV hy hA1
 have HBb := Lib.hid (Blk.new w 87 #[.string xnm, .string xtx, .slice A1 0 c1, .int .i64 xdp])
 have HXb := Lib.hid ((Ext.refl w).alloc (.cells #[.string xnm, .string xtx, .slice A1 0 c1, .int .i64 xdp] 87))
 go_enter Tryz.func46, Tryz.ntmps46
 go_upto_region 2 with fail
 obtain ⟨W9, hW9⟩ : ∃ W9, W9 = w.alloc (.cells #[.string xnm, .string xtx, .slice A1 0 c1, .int .i64 xdp] 87) := ⟨_, rfl⟩
 rw [← hW9] at HBb HXb ⊢
 clear hW9
 have hc := fun (y : EW W9) o => (HBb.out.ext y.ext).cell o
 have k20 := fun (y : EW W9) => y.ext.cell (HXb.out.cell c20)
 have k23 := fun (y : EW W9) => y.ext.cell (HXb.out.cell c23)
 clear c10 c11 c12 c13 c20 c21 c22 c23
 by_cases hz : ynm.size = 0
 · obtain rfl := str_no hz
   have hne : ((ydp : Int) == (xdp : Int)) = false := beq_eq_false_iff_ne.2 (fun h => hap ⟨rfl, by omega⟩)
   clear hap
   refine wp_region_ew W9 (Ext.refl _) (by kernel_rfl) (by kernel_rfl) ?_
   repeat (go_big_quiet_step (fail))
   refine wpQuiet_nil ?_
   rintro w6 ⟨⟨_, hx6⟩, rfl⟩
   try dsimp only
   have HX6 := Lib.hid (HXb.out.trans hx6)
   have hc6 := fun o => (HBb.out.ext hx6).cell o
   clear hc k20 k23 hx6
   go_wp2_with fail
   refine (HCv.out _ HX6.out).mono ?_
   rintro e w7 ⟨rfl, hx7⟩
   have HX7 := Lib.hid (HX6.out.trans hx7)
   clear hx7
   go_wp2_with fail
   go_ret
   exact ⟨rfl, HX7.out⟩
 · have hz3 := str_ne hz
   refine wp_region_ew W9 (Ext.refl _) (by kernel_rfl) (by kernel_rfl) ?_
   repeat (go_big_quiet_step (fail))
   refine wpQuiet_nil ?_
   rintro w6 ⟨⟨_, hx6⟩, rfl⟩
   try dsimp only
   have HX6 := Lib.hid (HXb.out.trans hx6)
   have hc6 := fun o => (HBb.out.ext hx6).cell o
   clear hc k20 k23 hx6
   go_wp2_with fail
   refine (HCv.out _ HX6.out).mono ?_
   rintro e w7 ⟨rfl, hx7⟩
   have HX7 := Lib.hid (HX6.out.trans hx7)
   clear hx7
   go_wp2_with fail
   go_ret
   exact ⟨rfl, HX7.out⟩
def CkRel (w : World) (n : Nat) (v : Value) (wr : World) : Prop := ∃ k : Nat, k ≤ n ∧ v = .int .i64 k ∧ Ext w wr
set_option maxHeartbeats 4000000 in
set_option maxRecDepth 100000 in
theorem XCheck_ok (A : Option Addr) (n c : Nat) (l : List Nd) (w : World) (hat : NodesAt w A n l) (hg : GoodL l) (hsm : ∀ x ∈ l, NdSm x) (hV : Env w) :
 Calls Tryz.prog 24 #[.slice A n c] w fun e w' => e = .returned (.int .i64 0) ∧ Ext w w' := by
 have hln := hat.len
 have hn : n ≤ 8192 := by rw [← hln]; exact hg.few
 have hn0 : n ≠ 0 := fun h => hg.ne (List.eq_nil_of_length_eq_zero (by omega))
 have HD := Lib.hid (fun i w' (hx : Ext w w') hi => checkDepth_ok A n c l i w' (hat.ext hx) hg.from' hi hn)
 have HT := Lib.hid (fun i x w' (hx : Ext w w') hi hxi hx0 => checkText_ok A n c l i x w' (hat.ext hx) hg.from' hi hn hxi hx0 (hsm x (List.mem_of_getElem? hxi)) (hV.ext hx))
 have HE := Lib.hid (fun n A c al dp w' (hx : Ext w w') hel hat hs => checkElement_ok n A c al dp w' hel hat hs (hV.ext hx))
 have HAt := Lib.hid hat
 have HG := Lib.hid hg
 have HSm := Lib.hid hsm
 have q1 : ((n : Int) == 0) = false := beq_eq_false_iff_ne.2 (by omega)
 have q2 : decide ((8192 : Int) < (n : Int)) = false := decide_eq_false (by omega)
 clear hat hg hsm hV hln
 go_enter Tryz.func24, Tryz.ntmps24
 go_wp2_with fail
 go_loopw [15] (fun v wr => CkRel w n v wr) (fun v _ => n - (intOf v).toNat)
 case atStart => exact ⟨0, Nat.zero_le _, rfl, Ext.refl _⟩
 case round =>
  obtain ⟨k, hk, rfl, hx⟩ := hrel
  have HXr := Lib.hid hx
  clear hx
  by_cases hlt : k < n
  · obtain ⟨b, off, x, rfl, hx, A1, n1, c1, c10, c11, c12, c13, hnc, hA1⟩ := (HAt.out.ext HXr.out).at' hlt
    have hok := HG.out.from'.ok x (List.mem_of_getElem? hx)
    have hsm := HSm.out x (List.mem_of_getElem? hx)
    have HOk := Lib.hid hok
    have HSx := Lib.hid hsm
    have HHx := Lib.hid hx
    have HA1 := Lib.hid hA1
    have hl1 := hA1.len
    obtain ⟨xnm, xtx, xat, xdp⟩ := x
    dsimp only at *
    clear hok hsm hx hA1
    have HBb := Lib.hid (Blk.new wr 87 #[.string xnm, .string xtx, .slice A1 n1 c1, .int .i64 xdp])
    have HXb := Lib.hid ((Ext.refl wr).alloc (.cells #[.string xnm, .string xtx, .slice A1 n1 c1, .int .i64 xdp] 87))
    have HX1 := Lib.hid (HXr.out.trans HXb.out)
    have hc := fun o => HBb.out.cell o
    go_wp2_with fail
    refine (HD.out k _ HX1.out hlt).mono ?_
    rintro e w2 ⟨rfl, rfl⟩
    by_cases hz : xnm.size = 0
    · obtain rfl := str_no hz
      go_wp2_with fail
      refine (HT.out k _ _ HX1.out hlt HHx.out rfl).mono ?_
      rintro e w3 ⟨rfl, hx3⟩
      have HX3 := Lib.hid (HX1.out.trans hx3)
      clear hx3
      go_wp2_with fail
      exact ⟨⟨k + 1, by omega, by go_num, HX3.out⟩, by simp [intOf]; omega⟩
    · obtain ⟨hel, htx⟩ := HOk.out.el hz
      dsimp only at hel htx
      have hz2 := str_ne2 hz
      have hz3 := str_ne hz
      subst htx
      have HEx := Lib.hid (HE.out xnm A1 c1 xat xdp _ HX1.out hel (by rw [hl1]; exact HA1.out.ext HXb.out) HSx.out.2)
      rw [hl1] at HEx
      have HEl := Lib.hid hel
      clear hel
      go_wp2_with (refine wpList_loadB rfl 87 (.tmp 4) rfl wr.heap.size 87 _ _ (by exact rfl) (by exact HBb.out) Tryz.underlying87 rfl (by exact size_nodeI) ?_)
      refine HEx.out.mono ?_
      rintro e w3 ⟨rfl, hx3⟩
      have HX3 := Lib.hid (HX1.out.trans hx3)
      clear hx3
      go_wp2_with fail
      exact ⟨⟨k + 1, by omega, by go_num, HX3.out⟩, by simp [intOf]; omega⟩
  · have ek : k = n := by omega
    subst ek
    go_wp2_with fail
    go_ret
    exact ⟨rfl, HXr.out⟩
end
end Go.Proofs.YtbmblnhfmpolbaaGreatDoor