/- Laid together: The walks of document.Find. The walks of comment.Find and of the reference's. The walks of ratio.known, size, away and Quotient at numbers that are not negative. Frames in another rate, plainly. Drifts and the worst of them, plainly. Documents in another rate, plainly. What an accepted document is, plainly. The walks of the references' rates: Valid, CanDrop, Nominal, Dropped, Day. The walks of timebase.Time, Frame, Convert and of retime.known, Span. Lemmas for the walks of Retime: calls of four arguments, appends in drawn regions, spans in their bounds. The walk of the reference's copy of a document. Documents with a comment more, plainly; the drawn region at the end of such functions. A document with an event more, plainly. The walk of document.taken. The walk of document.Sort. -/
import Derived.Test.YtagfedbdakmlgaaDoorVa12
import Derived.Test.YtagfedbdakmlgaaDoorVa05
import Derived.Test.YtagfedbdakmlgaaDoorVa04
import Derived.Test.YtagfedbdakmlgaaDoorVa01
import Derived.Test.YtagfedbdakmlgaaDoorVa07
import Derived.Test.YtagfedbdakmlgaaDoorVa08
import Derived.Test.YtagfedbdakmlgaaDoorVa09

/-! FindD -/
namespace Go.Proofs.YtagfedbdakmlgaaDoor
set_option linter.unusedVariables false
set_option linter.unusedSimpArgs false
open Go.RowKit
set_option maxHeartbeats 400000 in
theorem DFind1_any (x : Ev) (A' : Option Addr) (n' c' : Nat) (g : Nat) (id : Int) (w : World) (hB : Blk w g 2 #[.int .i64 id]) :
    Calls Tryd.prog 51 #[.agg #[.int .i64 x.id, .int .i64 x.inn, .int .i64 x.out, .string x.region, .int .u8 x.kind, .string x.speaker, .slice A' n' c'], .pointer (some ⟨g, 0, none⟩)] w fun e w' => e = .returned (.bool (x.id == id)) ∧ Ext w w' := by
  have HX := Lib.hid ((Ext.refl w).alloc (.cells #[.int .i64 x.id, .int .i64 x.inn, .int .i64 x.out, .string x.region, .int .u8 x.kind, .string x.speaker, .slice A' n' c'] 45))
  have hg : ∀ o, (w.alloc o).cell? ⟨g, 0, none⟩ = some (.int .i64 id) := fun o => (hB.alloc o).cell 0
  have hlt := hB.lt
  clear hB
  go_enter Tryd.func51, Tryd.ntmps51
  go_wp2_with fail
  go_ret
  exact ⟨rfl, HX.out⟩
def DIxRel (w1 : World) (n : Nat) (id : Int) (l : List Ev) (i : Value) (wr : World) : Prop := ∃ k : Nat, k ≤ n ∧ i = .int .i64 k ∧ findE (l.take k) id = none ∧ Ext w1 wr
set_option maxRecDepth 100000 in
set_option maxHeartbeats 1000000 in
theorem DIndex_any (A : Option Addr) (n c : Nat) (l : List Ev) (g : Nat) (id : Int) (w : World) (hl : EvsAt w A n l) (hn : n ≤ 4611686018427387904) (hB : Blk w g 2 #[.int .i64 id]) :
    Calls Tryd.prog 50 #[.slice A n c, .func (.func 51) #[] #[.pointer (some ⟨g, 0, none⟩)]] w fun e w' => e = .returned (.int .i64 (findI l id)) ∧ Ext w w' := by
  have HE := Lib.hid hl
  have HLn := Lib.hid hl.len
  have HBg := Lib.hid hB
  clear hl hB
  go_enter Tryd.func50, Tryd.ntmps50
  go_wp2_with fail
  go_loopw [8] (fun i wr => DIxRel w n id l i wr) (fun i _ => n - (intOf i).toNat)
  case atStart => exact ⟨0, Nat.zero_le _, rfl, rfl, Ext.refl _⟩
  case round =>
    obtain ⟨k, hk, rfl, hF, hx⟩ := hrel
    have HF := Lib.hid hF
    clear hF
    by_cases hlt : k < n
    · obtain ⟨b, off, x, A', n', c', rfl, hxx, -, c0, c1, c2, c3, c4, c5, c6⟩ := (HE.out.ext hx).at_ev hlt
      have HXx := Lib.hid hxx
      have HCl := Lib.hid (DFind1_any x A' n' c' g id wr (HBg.out.ext hx))
      clear hxx
      by_cases he : x.id = id
      · have hb : (x.id == id) = true := by simpa using he
        have HV := Lib.hid (findE_here HF.out HXx.out he)
        rw [hb] at HCl
        clear he hb
        go_wp2_with fail
        refine HCl.out.mono ?_
        rintro en w2 ⟨rfl, hx2⟩
        go_wp2_with fail
        go_ret
        exact ⟨ret_int (by unfold findI; rw [HV.out]), hx.trans hx2⟩
      · have hb : (x.id == id) = false := by simpa using he
        have HV := Lib.hid (findE_on HF.out HXx.out he)
        rw [hb] at HCl
        clear he hb
        go_wp2_with fail
        refine HCl.out.mono ?_
        rintro en w2 ⟨rfl, hx2⟩
        go_wp2_with fail
        exact ⟨⟨k + 1, by omega, by go_num, HV.out, hx.trans hx2⟩, by simp [intOf]; omega⟩
    · have hkn : k = n := by omega
      have HV : Hid (findE l id = none) := by
        show _ = _
        have h1 := HF.out
        rwa [List.take_of_length_le (by rw [HLn.out]; omega)] at h1
      subst hkn
      go_wp2_with fail
      go_ret
      exact ⟨ret_int (by unfold findI; rw [HV.out]), hx⟩
set_option maxHeartbeats 1000000 in
theorem DFind_any (d : Doc) (h : DocH) (id : Int) (w : World) (hat : EvsAt w h.ea h.en d.evs) (hn : h.en ≤ 4611686018427387904) :
    Calls Tryd.prog 23 #[.agg (d.cells h), .int .i64 id] w fun e w' => e = .returned (.int .i64 (findI d.evs id)) ∧ Ext w w' := by
  have HX : Hid (Ext w ((w.alloc (.cells (d.cells h) 39)).alloc (.cells #[.int .i64 id] 2))) := ((Ext.refl w).alloc _).alloc _
  have HI := Lib.hid (fun w' (hx : Ext w w') g hB => DIndex_any h.ea h.en h.ec d.evs g id w' (hat.ext hx) hn hB)
  clear hat
  unfold Doc.cells at *
  go_enter Tryd.func23, Tryd.ntmps23
  go_wp2_with fail
  refine (HI.out _ HX.out (w.heap.size + 1) (Blk.new' (by simp))).mono ?_
  rintro en w2 ⟨rfl, hx2⟩
  go_wp2_with fail
  go_ret
  exact ⟨rfl, HX.out.trans hx2⟩
end Go.Proofs.YtagfedbdakmlgaaDoor

/-! FindC -/
namespace Go.Proofs.YtagfedbdakmlgaaDoor
set_option linter.unusedVariables false
set_option linter.unusedSimpArgs false
open Go.RowKit
def findC (l : List Com) (id : Int) : Option Nat := l.findIdx? fun e => e.id == id
def findCI (l : List Com) (id : Int) : Int := match findC l id with | none => -1 | some k => (k : Int)
theorem findC_snoc (l : List Com) (x : Com) (id : Int) : findC (l ++ [x]) id = match findC l id with | some k => some k | none => if x.id == id then some l.length else none := by
  unfold findC
  rw [List.findIdx?_append]
  cases h : l.findIdx? (fun e => e.id == id) with
  | some k => simp
  | none => simp [List.findIdx?_cons]
theorem findC_here {l : List Com} {id : Int} {k : Nat} {x : Com} (h : findC (l.take k) id = none) (hx : l[k]? = some x) (he : x.id = id) : findC l id = some k := by
  obtain ⟨hk, hxk⟩ := List.getElem?_eq_some_iff.1 hx
  unfold findC at h ⊢
  rw [List.findIdx?_eq_some_iff_getElem]
  refine ⟨hk, by rw [hxk]; simpa using he, fun j hj => ?_⟩
  have h2 := List.findIdx?_eq_none_iff.1 h (l[j]'(by omega)) (List.mem_of_getElem? (i := j) (by rw [List.getElem?_take, if_pos hj]; exact List.getElem?_eq_getElem _))
  simpa using h2
theorem findC_on {l : List Com} {id : Int} {k : Nat} {x : Com} (h : findC (l.take k) id = none) (hx : l[k]? = some x) (he : x.id ≠ id) : findC (l.take (k + 1)) id = none := by
  rw [take_snoc' l k x hx, findC_snoc, h]
  simp [he]
def FndRelC (w1 : World) (n : Nat) (id : Int) (l : List Com) (i : Value) (wr : World) : Prop := ∃ k : Nat, k ≤ n ∧ i = .int .i64 k ∧ findC (l.take k) id = none ∧ Ext w1 wr
def CIxRel (w1 : World) (n : Nat) (id : Int) (l : List Com) (i : Value) (wr : World) : Prop := ∃ k : Nat, k ≤ n ∧ i = .int .i64 k ∧ findC (l.take k) id = none ∧ Ext w1 wr
end Go.Proofs.YtagfedbdakmlgaaDoor

/-! RatioQ -/
namespace Go.Proofs.YtagfedbdakmlgaaDoor
set_option linter.unusedVariables false
set_option linter.unusedSimpArgs false
open Go.RowKit
/-- is a remainder rounded up? (mode 1: down, 2: to the nearest, 3: up) -/
def awayB (r d m : Int) : Bool := if r = 0 then false else if m = 1 then false else if m = 3 then true else decide (d - r ≤ r)
/-- a quotient of numbers that are not negative -/
def quoI (n d m : Int) : Int := if awayB (n % d) d m = true then n / d + 1 else n / d
end Go.Proofs.YtagfedbdakmlgaaDoor

/-! ConvP -/
namespace Go.Proofs.YtagfedbdakmlgaaDoor
set_option linter.unusedVariables false
set_option linter.unusedSimpArgs false
open Go.RowKit
/-- the tick at which a frame begins, and the error -/
def timeT (r f : Int) : Int × Int := if rOk r = false then (0, 3) else if f < 0 ∨ 10378368000 / rTicks r < f then (0, 2) else (f * rTicks r, 0)
/-- the frame of a tick (mode m), and the error -/
def frameT (r t m : Int) : Int × Int := if rOk r = false then (0, 3) else if t < 0 ∨ 10378368000 < t then (0, 2) else if 10378368000 < quoI t (rTicks r) m * rTicks r then (0, 2) else (quoI t (rTicks r) m, 0)
def convT (a b f m : Int) : Int × Int := if rOk a = false ∨ rOk b = false then (0, 3) else if (timeT a f).2 ≠ 0 then (0, (timeT a f).2) else frameT b (timeT a f).1 m
/-- the span that a span becomes, and the error -/
def spanT (a b i o m : Int) : (Int × Int) × Int :=
  if rOk a = false ∨ rOk b = false then ((0, 0), 3) else if ¬ (m = 1 ∨ m = 2) ∨ o ≤ i then ((0, 0), 1) else if i < 0 ∨ 5184000 < o then ((0, 0), 2) else if m = 2 then ((i, o), 0) else
    if (convT a b i 2).2 ≠ 0 then ((0, 0), (convT a b i 2).2) else if (convT a b o 2).2 ≠ 0 then ((0, 0), (convT a b o 2).2) else
      if 5184000 < max (convT a b o 2).1 ((convT a b i 2).1 + 1) then ((0, 0), 2) else (((convT a b i 2).1, max (convT a b o 2).1 ((convT a b i 2).1 + 1)), 0)
end Go.Proofs.YtagfedbdakmlgaaDoor

/-! WorstP -/
namespace Go.Proofs.YtagfedbdakmlgaaDoor
set_option linter.unusedVariables false
set_option linter.unusedSimpArgs false
open Go.RowKit
/-- a drift -/
structure Dri where
  id : Int
  inn : Int
  out : Int
  deriving DecidableEq
def Dri.vals (d : Dri) : List Value := [.int .i64 d.id, .int .i64 d.inn, .int .i64 d.out]
def DrisAt (w : World) (A : Option Addr) (n : Nat) (l : List Dri) : Prop := Sl w 3 (Cells Dri.vals) A n l
theorem DrisAt.ext {w w1 : World} {A : Option Addr} {n : Nat} {l : List Dri} (h : DrisAt w A n l) (k : Ext w w1) : DrisAt w1 A n l := Sl.ext (Cells.stays _) h k
/-- the numbers fit -/
def Dri.Fits (d : Dri) : Prop := (-9223372036854775808 ≤ d.inn ∧ d.inn ≤ 9223372036854775807) ∧ (-9223372036854775808 ≤ d.out ∧ d.out ≤ 9223372036854775807)
/-- the size of a drift -/
def dsz (n : Int) : Int := if n = -9223372036854775808 then 9223372036854775807 else if n < 0 then -n else n
def worstStep (n : Int) (d : Dri) : Int := max (max n (dsz d.inn)) (dsz d.out)
def worst (l : List Dri) : Int := l.foldl worstStep 0
/-- whether the worst is met among these -/
def metB (n : Int) (l : List Dri) : Bool := decide (n = 0) || l.any fun d => decide (dsz d.inn = n) || decide (dsz d.out = n)
/-- the number whose size is taken -/
def dfix (x : Int) : Int := if x = -9223372036854775808 then -9223372036854775807 else x
end Go.Proofs.YtagfedbdakmlgaaDoor

/-! RetP -/
namespace Go.Proofs.YtagfedbdakmlgaaDoor
set_option linter.unusedVariables false
set_option linter.unusedSimpArgs false
open Go.RowKit
/-- the document without anything -/
def Doc.zero : Doc := ⟨⟨#[]⟩, ⟨#[]⟩, 0, false, 0, [], [], []⟩
/-- the span of an event in another rate, and the error -/
def Ev.span (a b m : Int) (x : Ev) : (Int × Int) × Int := spanT a b x.inn x.out m
/-- the first error of the spans -/
def retErr (a b m : Int) : List Ev → Int
  | [] => 0
  | x :: l => if (x.span a b m).2 ≠ 0 then (x.span a b m).2 else retErr a b m l
/-- the event at place k in another rate -/
def retEv (a b m : Int) (k : Nat) (x : Ev) : Ev := ⟨(k : Int) + 1, (x.span a b m).1.1, (x.span a b m).1.2, x.region, x.kind, x.speaker, x.rows⟩
def retDri (a b m : Int) (k : Nat) (x : Ev) : Dri := ⟨(k : Int) + 1, (x.span a b m).1.1 * rTicks b - x.inn * rTicks a, (x.span a b m).1.2 * rTicks b - x.out * rTicks a⟩
def retEvs (a b m : Int) (l : List Ev) : List Ev := l.mapIdx (retEv a b m)
def retDris (a b m : Int) (l : List Ev) : List Dri := l.mapIdx (retDri a b m)
/-- the new number of an event -/
def newId (l : List Ev) (id : Int) : Int := match findE l id with | some k => (k : Int) + 1 | none => 0
/-- the comments that are not lost, numbered behind a number -/
def retComs (evs : List Ev) : Int → List Com → List Com
  | _, [] => []
  | p, c :: l => if c.lost = true then retComs evs p l else ⟨p + 1, newId evs c.ev, c.fr, c.til, c.author, c.text, c.done, c.lost⟩ :: retComs evs (p + 1) l
def liveN (l : List Com) : Nat := (l.filter fun c => !c.lost).length
def Doc.ret (d : Doc) (b : Int) (drop : Bool) (m : Int) : Doc :=
  ⟨d.title, d.lang, b, drop, (d.evs.length : Int) + liveN d.coms, d.regs, retEvs d.rate b m d.evs, retComs d.evs d.evs.length d.coms⟩
/-- the error of a document in another rate -/
def Doc.retE (d : Doc) (b : Int) (drop : Bool) (m : Int) : Int :=
  if d.err ≠ 0 then d.err else if rateOkB b drop = false then 13 else if ¬ (m = 1 ∨ m = 2) then 1 else retErr d.rate b m d.evs
/-- the document, the drifts -/
def Doc.retD (d : Doc) (b : Int) (drop : Bool) (m : Int) : Doc := if d.retE b drop m = 0 then d.ret b drop m else Doc.zero
def Doc.retL (d : Doc) (b : Int) (drop : Bool) (m : Int) : List Dri := if d.retE b drop m = 0 then retDris d.rate b m d.evs else []
end Go.Proofs.YtagfedbdakmlgaaDoor

/-! DocV -/
namespace Go.Proofs.YtagfedbdakmlgaaDoor
set_option linter.unusedVariables false
set_option linter.unusedSimpArgs false
open Go.RowKit
theorem doc_ok {d : Doc} (h : d.err = 0) : d.headErr = 0 ∧ regsErr d.regs = 0 ∧ d.evs.length ≤ 400 ∧ evsLoop d.regs d.last [] d.evs = 0 ∧ d.coms.length ≤ 64 ∧ comsLoop d.last d.evs none d.coms = 0 := by
  unfold Doc.err at h
  split at h
  · rename_i h1; exact absurd h h1
  · rename_i h1
    split at h
    · rename_i h2; exact absurd h h2
    · rename_i h2
      split at h
      · simp at h
      · rename_i h3
        split at h
        · rename_i h4; exact absurd h h4
        · rename_i h4
          split at h
          · simp at h
          · rename_i h5
            exact ⟨by simpa using h1, by simpa using h2, by omega, by simpa using h4, by omega, h⟩
theorem head_ok' {d : Doc} (h : d.headErr = 0) : vld d.title = true ∧ d.title.size ≤ 400 ∧ ¬ (d.lang.toList.isEmpty = false ∧ nameB d.lang = false) ∧ rateOkB d.rate d.drop = true ∧ 0 ≤ d.last ∧ d.last ≤ 1099511627776 := by
  unfold Doc.headErr at h
  split at h
  · simp at h
  · rename_i h1
    split at h
    · simp at h
    · rename_i h2
      split at h
      · simp at h
      · rename_i h3
        split at h
        · simp at h
        · rename_i h4
          split at h
          · simp at h
          · rename_i h5
            exact ⟨by simpa using h1, by omega, h3, by simpa using h4, by omega, by omega⟩
/-- each event behind those ahead of it -/
theorem evs_ok {regs : List Reg} {last : Int} : ∀ {l pre : List Ev}, evsLoop regs last pre l = 0 → ∀ (k : Nat) (x : Ev), l[k]? = some x →
    x.err regs = 0 ∧ x.id ≤ last ∧ ¬ (((pre ++ l.take k).getLast?.map fun p => lessB p x) = some false) ∧ findE (pre ++ l.take k) x.id = none
  | [], pre, _, k, x, hx => by simp at hx
  | y :: l, pre, h, 0, x, hx => by
    simp at hx; subst hx
    rw [evs_cons] at h
    split at h
    · rename_i h1; exact absurd h h1
    · rename_i h1
      have h1' : evErr regs last pre y = 0 := by simpa using h1
      unfold evErr at h1'
      split at h1'
      · rename_i h2; exact absurd h1' h2
      · rename_i h2
        split at h1'
        · simp at h1'
        · rename_i h3
          split at h1'
          · simp at h1'
          · rename_i h4
            split at h1'
            · simp at h1'
            · rename_i h5
              refine ⟨by simpa using h2, by omega, by simpa using h4, ?_⟩
              simp only [List.take_zero, List.append_nil]
              cases hf : findE pre y.id with
              | none => rfl
              | some j => rw [hf] at h5; simp at h5
  | y :: l, pre, h, k + 1, x, hx => by
    rw [evs_cons] at h
    split at h
    · rename_i h1; exact absurd h h1
    · have := evs_ok h k x (by simpa using hx)
      simpa using this
theorem evs_all {regs : List Reg} {last : Int} : ∀ {l pre : List Ev}, (∀ (k : Nat) (x : Ev), l[k]? = some x → evErr regs last (pre ++ l.take k) x = 0) → evsLoop regs last pre l = 0
  | [], pre, _ => rfl
  | y :: l, pre, h => by
    have h0 := h 0 y rfl
    simp at h0
    rw [evs_cons, if_neg (by simpa using h0)]
    refine evs_all fun k x hx => ?_
    have := h (k + 1) x (by simpa using hx)
    simpa using this
/-- each comment behind those ahead of it -/
theorem coms_ok {last : Int} {evs : List Ev} {l : List Com} (h : comsLoop last evs none l = 0) : ∀ (k : Nat) (c : Com), l[k]? = some c → c.err last evs (prevC l k) = 0 := by
  have key : ∀ k, k ≤ l.length → comsLoop last evs (prevC l k) (l.drop k) = 0 := by
    intro k
    induction k with
    | zero => intro _; exact h
    | succ k ih =>
      intro hk
      have h1 := ih (by omega)
      obtain ⟨c, hc⟩ : ∃ c, l[k]? = some c := ⟨_, List.getElem?_eq_getElem (by omega)⟩
      obtain ⟨h2, h3⟩ := coms_step hc h1.symm
      by_cases he : c.err last evs (prevC l k) = 0
      · exact (h3 he).symm
      · exact absurd (h2 he).symm he
  intro k c hc
  have hk := (List.getElem?_eq_some_iff.1 hc).1
  obtain ⟨h2, _⟩ := coms_step hc (key k (by omega)).symm
  by_cases he : c.err last evs (prevC l k) = 0
  · exact he
  · exact absurd (h2 he).symm he
theorem com_ok {c : Com} {last : Int} {evs : List Ev} {p : Option Int} (h : c.err last evs p = 0) : 1 ≤ c.id ∧ c.id ≤ last ∧ ¬ ((p.map fun q => decide (c.id ≤ q)) = some true) ∧ findE evs c.id = none ∧ c.anchorErr last evs = 0 ∧ nameB c.author = true ∧ vld c.text = true ∧ c.text.toList.isEmpty = false ∧ c.text.size ≤ 400 := by
  unfold Com.err at h
  split at h
  · simp at h
  · rename_i h1
    split at h
    · simp at h
    · rename_i h2
      split at h
      · simp at h
      · rename_i h3
        split at h
        · rename_i h4; exact absurd h h4
        · rename_i h4
          split at h
          · simp at h
          · rename_i h5
            split at h
            · simp at h
            · rename_i h6
              split at h
              · simp at h
              · rename_i h7
                split at h
                · simp at h
                · rename_i h8
                  refine ⟨by omega, by omega, h2, ?_, by simpa using h4, by simpa using h5, by simpa using h6, by simpa using h7, by omega⟩
                  cases hf : findE evs c.id with
                  | none => rfl
                  | some j => rw [hf] at h3; simp at h3
theorem anchor_ok {c : Com} {last : Int} {evs : List Ev} (h : c.anchorErr last evs = 0) : 1 ≤ c.ev ∧ c.ev ≤ last ∧ (c.lost = true → c.fr = 0 ∧ c.til = 0) ∧ (c.lost = false → ∃ k e, findE evs c.ev = some k ∧ evs[k]? = some e ∧ 0 ≤ c.fr ∧ c.fr < c.til ∧ c.til ≤ e.len) := by
  by_cases h1 : c.ev < 1 ∨ last < c.ev
  · rw [anc_no h1] at h; simp at h
  cases hl : c.lost
  · cases hf : findE evs c.ev with
    | none => rw [anc_none h1 hl hf] at h; simp at h
    | some k =>
      have hk := findE_lt hf
      rw [anc_some h1 hl hf (List.getElem?_eq_getElem hk)] at h
      split at h
      · simp at h
      · refine ⟨by omega, by omega, fun hh => by simp at hh, fun _ => ⟨k, _, rfl, List.getElem?_eq_getElem hk, by omega, by omega, by omega⟩⟩
  · rw [anc_lost h1 hl] at h
    split at h
    · simp at h
    · exact ⟨by omega, by omega, fun _ => by omega, fun hh => by simp at hh⟩
theorem ev_ok {e : Ev} {regs : List Reg} (h : e.err regs = 0) : 1 ≤ e.id ∧ e.id ≤ 1099511627776 ∧ spansB e.inn e.out = true := by
  unfold Ev.err at h
  split at h
  · simp at h
  · rename_i h1
    refine ⟨by omega, by omega, ?_⟩
    cases hs : spansB e.inn e.out
    · exact absurd (.inr (.inr hs)) h1
    · rfl
end Go.Proofs.YtagfedbdakmlgaaDoor

/-! RateR -/
namespace Go.Proofs.YtagfedbdakmlgaaDoor
set_option linter.unusedVariables false
set_option linter.unusedSimpArgs false
open Go.RowKit
end Go.Proofs.YtagfedbdakmlgaaDoor

/-! ConvW -/
namespace Go.Proofs.YtagfedbdakmlgaaDoor
set_option linter.unusedVariables false
set_option linter.unusedSimpArgs false
open Go.RowKit
def tupI (p : Int × Int) : Value := .tuple #[.int .i64 p.1, .int .i64 p.2]
def tupS (p : (Int × Int) × Int) : Value := .tuple #[.agg #[.int .i64 p.1.1, .int .i64 p.1.2], .int .i64 p.2]
end Go.Proofs.YtagfedbdakmlgaaDoor

/-! RetK -/
namespace Go.Proofs.YtagfedbdakmlgaaDoor
set_option linter.unusedVariables false
set_option linter.unusedSimpArgs false
open Go.RowKit Go.Maps
theorem results_B_tmp2 {P : Program} {fn : Func} {p u v : Tmp} {ty : TypeId} (h : fn.results = #[.cell p ty, .tmp u, .tmp v]) {tmps : Array Value} {w : World} {g : Nat} {t : TypeId} {cs : Array Value} {d : TypeDesc} (hp : tmps.getD p undef = .pointer (some ⟨g, 0, none⟩))
    (hB : Blk w g t cs) (hu : P.underlying ty = some d) (hd : d.isRow = true) (hi : (P.info? ty).map (·.size) = some cs.size) : (results fn tmps).run P w = .ok (.tuple #[.agg cs, tmps.getD u undef, tmps.getD v undef]) w := by
  have h1 := run_loadVarB (P := P) g t ty cs d hB hu hd hi
  simp only [results, h]
  have e : tmps[p]?.getD undef = .pointer (some ⟨g, 0, none⟩) := by simpa using hp
  simp [Sem.run_bind, e, run_asAddr, h1]
def docH0 : DocH := ⟨none, 0, 0, none, 0, 0, none, 0, 0⟩
theorem docZero_cells : Doc.zero.cells docH0 = docZero := rfl
/-- what Retime comes to -/
def RetPost (d : Doc) (b : Int) (drop : Bool) (m : Int) (w : World) (en : Ending) (w' : World) : Prop :=
  ∃ h' A n c, en = .returned (.tuple #[.agg ((d.retD b drop m).cells h'), .slice A n c, .int .i64 (d.retE b drop m)]) ∧ DocAt w' (d.retD b drop m) h' ∧ DrisAt w' A n (d.retL b drop m) ∧ n ≤ c ∧ Ext w w'
section
variable {d : Doc} {b m : Int} {drop : Bool}
end
theorem KM.trans {w w1 w2 : World} (h : KM w w1) (k : KM w1 w2) : KM w w2 := fun b es cl hb => k b es cl (h b es cl hb)
/-- the events while they are turned: those ahead of place k are new -/
def midEvs (a b m : Int) (l : List Ev) (k : Nat) : List Ev := retEvs a b m (l.take k) ++ l.drop k
section
variable {d : Doc} {h hh : DocH} {b m : Int} {oc : Array Value} {B M k : Nat} {w wr w1 : World} {v : Value}
end
end Go.Proofs.YtagfedbdakmlgaaDoor

/-! DClR -/
namespace Go.Proofs.YtagfedbdakmlgaaDoor
set_option linter.unusedVariables false
set_option linter.unusedSimpArgs false
open Go.RowKit
theorem own_uniq {w : World} {L : Nat} {e : TypeId} {size : Nat} {v : Value} {n : Nat} {xs ys : List Value} (h : w.ownsRow L e size v n xs) (k : w.ownsRow L e size v n ys) : ys = xs := by
  rcases h.2 with ⟨rfl, rfl⟩ | ⟨g, cap, cur, rfl, _, hb, _, _, _, hx⟩
  · have h1 := h.1
    have h2 := k.1
    rw [Nat.zero_mul] at h1 h2
    rw [List.eq_nil_of_length_eq_zero h1, List.eq_nil_of_length_eq_zero h2]
  · rcases k.2 with ⟨e1, _⟩ | ⟨g', cap', cur', e1, _, hb', _, _, _, hx'⟩
    · cases e1
    · cases e1
      rw [hb] at hb'
      cases hb'
      rw [← hx, ← hx']
theorem own_isSlice {w : World} {L : Nat} {e : TypeId} {size : Nat} {v : Value} {n : Nat} {xs : List Value} (h : w.ownsRow L e size v n xs) : ∃ A c, v = .slice A n c := by
  rcases h.2 with ⟨rfl, rfl⟩ | ⟨g, cap, cur, rfl, _⟩
  · exact ⟨none, 0, rfl⟩
  · exact ⟨_, _, rfl⟩
/-- an event is appended to events of one's own -/
theorem EvsOwn.push {w w1 : World} {L k : Nat} {v v' : Value} {l : List Ev} {e : Ev} {hs : List EH} {A' : Option Addr} {n' c' : Nat} (h1 : w.ownsRow L 45 7 v k (hs.flatMap EH.vals)) (h : EvsOwn w L v k l) (hg : EGood w L (EH.of e A' n' c') e) (hgr : w.grownBy w1 v.ownBlock)
    (hO : w1.ownsRow L 45 7 v' (k + 1) (hs.flatMap EH.vals ++ (e.cells A' n' c').toList)) : EvsOwn w1 L v' (k + 1) (l ++ [e]) :=
  h.snoc hg hgr fun xs hx => by rw [own_uniq h1 hx]; exact hO
theorem EvsOwn.heads {w : World} {L n : Nat} {v : Value} {l : List Ev} (h : EvsOwn w L v n l) : ∃ hs : List EH, w.ownsRow L 45 7 v n (hs.flatMap EH.vals) := h.elim fun hs h => ⟨hs, h.1⟩
structure R12ClRel (d : Doc) (cs : Array Value) (rn cn : Nat) (w : World) (v1 v2 : Value) (k : Nat) (v : Value) (wr : World) : Prop where
  ext : Ext w wr
  doc : Blk wr w.heap.size 39 cs
  zero : Blk wr (w.heap.size + 1) 39 docZero
  regs : wr.ownsRow w.heap.size 58 7 v1 rn (d.regs.flatMap Reg.vals)
  coms : wr.ownsRow w.heap.size 31 8 v2 cn (d.coms.flatMap Com.vals)
  evs : EvsOwn wr w.heap.size v k (d.evs.take k)
def R12ClLoop (d : Doc) (cs : Array Value) (rn cn n : Nat) (w : World) (v1 v2 v i : Value) (wr : World) : Prop := ∃ k : Nat, k ≤ n ∧ i = .int .i64 k ∧ R12ClRel d cs rn cn w v1 v2 k v wr
section
variable {d : Doc} {cs : Array Value} {rn cn k : Nat} {w wr w1 w2 : World} {v1 v2 v v' : Value}
theorem R12ClRel.grow (r : R12ClRel d cs rn cn w v1 v2 k v wr) (hx : Ext wr w1) : R12ClRel d cs rn cn w v1 v2 k v w1 :=
  ⟨r.ext.trans hx, r.doc.ext hx, r.zero.ext hx, own_ext r.regs hx, own_ext r.coms hx, r.evs.ext hx⟩
theorem R12ClRel.step {e : Ev} {hs : List EH} {A' : Option Addr} {n' c' : Nat} (r : R12ClRel d cs rn cn w v1 v2 k v wr) (he : d.evs[k]? = some e) (h1 : wr.ownsRow w.heap.size 45 7 v k (hs.flatMap EH.vals)) (hg : EGood wr w.heap.size (EH.of e A' n' c') e) (hgr : wr.grownBy w2 v.ownBlock)
    (hO : w2.ownsRow w.heap.size 45 7 v' (k + 1) (hs.flatMap EH.vals ++ (e.cells A' n' c').toList)) : R12ClRel d cs rn cn w v1 v2 (k + 1) v' w2 := by
  have hty := own_typed h1
  refine ⟨r.ext.grown hgr (fun q hq => own_lt h1 q hq), r.doc.kb (KB.grown hgr hty (by decide)), r.zero.kb (KB.grown hgr hty (by decide)), own_kb r.regs (KB.grown hgr hty (by decide)), own_kb r.coms (KB.grown hgr hty (by decide)), ?_⟩
  rw [take_snoc' d.evs k e he]
  exact r.evs.push h1 hg hgr hO
end
end Go.Proofs.YtagfedbdakmlgaaDoor

/-! AddP -/
namespace Go.Proofs.YtagfedbdakmlgaaDoor
set_option linter.unusedVariables false
set_option linter.unusedSimpArgs false
open Go.RowKit
def Doc.addErr (d : Doc) (id fr til : Int) (au tx : ByteArray) : Int :=
  if d.err ≠ 0 then d.err else match findE d.evs id with
    | none => 6
    | some k => if fr < 0 ∨ til ≤ fr ∨ (d.evs[k]?.map fun e => decide (e.len < til)) = some true then 2 else if nameB au = false then 5 else if vld tx = false then 10 else if tx.toList.isEmpty = true then 4 else
      if 400 < tx.size ∨ 64 ≤ d.coms.length ∨ 1099511627776 ≤ d.last then 9 else 0
def Doc.addD (d : Doc) (id fr til : Int) (au tx : ByteArray) : Doc := ⟨d.title, d.lang, d.rate, d.drop, d.last + 1, d.regs, d.evs, d.coms ++ [⟨d.last + 1, id, fr, til, au, tx, false, false⟩]⟩
def Doc.added (d : Doc) (id fr til : Int) (au tx : ByteArray) : Doc := if d.addErr id fr til au tx = 0 then d.addD id fr til au tx else Doc.zero
def Doc.addId (d : Doc) (id fr til : Int) (au tx : ByteArray) : Int := if d.addErr id fr til au tx = 0 then d.last + 1 else 0
def AddPost (d : Doc) (id fr til : Int) (au tx : ByteArray) (w : World) (en : Ending) (w' : World) : Prop :=
  ∃ h', en = .returned (.tuple #[.agg ((d.added id fr til au tx).cells h'), .int .i64 (d.addId id fr til au tx), .int .i64 (d.addErr id fr til au tx)]) ∧ DocOwn w' w.heap.size (d.added id fr til au tx) h' ∧ Ext w w'
theorem docZero_own (w : World) (L : Nat) : DocOwn w L Doc.zero docH0 := ⟨⟨rfl, .inl ⟨rfl, rfl⟩⟩, rfl, EvsOwn.nil _ _, ⟨rfl, .inl ⟨rfl, rfl⟩⟩, rfl⟩
section
variable {d : Doc} {id fr til : Int} {au tx : ByteArray} {k : Nat} {x : Ev}
end
/-- a document is loaded and stored as a result, at whatever time -/
structure RdJ (g : Nat) (cs : Array Value) (W : World) (us : List Value) (w' : World) : Prop where
  any : (us = [] ∧ Ext W w') ∨ (us ≠ [] ∧ ∃ w5, Ext W w5 ∧ w' = putB w5 g 39 cs)
theorem RdJ.start (g : Nat) (cs : Array Value) (W : World) : RdJ g cs W [] W.drew := ⟨.inl ⟨rfl, (Ext.refl W).drew⟩⟩
theorem RdJ.nil {g : Nat} {cs : Array Value} {W w' : World} (h : RdJ g cs W [] w') : Ext W w' := by
  rcases h.any with ⟨_, h⟩ | ⟨h, _⟩
  · exact h
  · exact absurd rfl h
theorem RdJ.one {g : Nat} {cs : Array Value} {W w' : World} {u : Value} (h : RdJ g cs W [u] w') : ∃ w5, Ext W w5 ∧ w' = putB w5 g 39 cs := by
  rcases h.any with ⟨h, _⟩ | ⟨_, h⟩
  · cases h
  · exact h
theorem RdJ.blk {g b : Nat} {T : TypeId} {cs cs' : Array Value} {W w' : World} {us : List Value} (h : RdJ g cs W us w') (hB : Blk W b T cs') (hne : b ≠ g) : Blk w' b T cs' := by
  rcases h.any with ⟨_, hx⟩ | ⟨_, w5, hx, rfl⟩
  · exact hB.ext hx
  · exact (hB.ext hx).put_other (Ne.symm hne) _
theorem RdJ.blk_nil {g b : Nat} {T : TypeId} {cs cs' : Array Value} {W w' : World} (h : RdJ g cs W [] w') (hB : Blk W b T cs') : Blk w' b T cs' := hB.ext h.nil
theorem RdJ.store {g : Nat} {cs : Array Value} {W w' : World} {u : Value} (h : RdJ g cs W [] w') : RdJ g cs W ([] ++ [u]) (putB w' g 39 cs) := ⟨.inr ⟨by simp, w', h.nil, rfl⟩⟩
end Go.Proofs.YtagfedbdakmlgaaDoor

/-! InsP -/
namespace Go.Proofs.YtagfedbdakmlgaaDoor
set_option linter.unusedVariables false
set_option linter.unusedSimpArgs false
open Go.RowKit
def Ev.setId (e : Ev) (i : Int) : Ev := ⟨i, e.inn, e.out, e.region, e.kind, e.speaker, e.rows⟩
def Doc.takenB (d : Doc) (id : Int) : Bool := decide (0 ≤ findI d.evs id) || decide (0 ≤ findCI d.coms id)
def Doc.insId (d : Doc) (e : Ev) : Int := if e.id = 0 then d.last + 1 else e.id
def Doc.insLast (d : Doc) (e : Ev) : Int := if e.id = 0 then d.last + 1 else d.last
/-- the error of the new event's number -/
def Doc.insE1 (d : Doc) (e : Ev) : Int := if e.id = 0 then (if 1099511627776 ≤ d.last then 9 else 0) else if e.id < 1 ∨ d.last < e.id then 2 else if d.takenB e.id = true then 7 else 0
def Doc.insErr (d : Doc) (e : Ev) : Int := if d.err ≠ 0 then d.err else if d.insE1 e ≠ 0 then d.insE1 e else if (e.setId (d.insId e)).err d.regs ≠ 0 then (e.setId (d.insId e)).err d.regs else if 400 ≤ d.evs.length then 9 else 0
def Doc.insD (d : Doc) (e : Ev) : Doc := ⟨d.title, d.lang, d.rate, d.drop, d.insLast e, d.regs, srtE (d.evs ++ [e.setId (d.insId e)]), d.coms⟩
/-- what Insert comes to -/
abbrev DIE : Type := Doc × Int × Int
def Doc.insX (d : Doc) (e : Ev) : DIE := if d.insErr e = 0 then (d.insD e, d.insId e, 0) else (Doc.zero, 0, d.insErr e)
def DIEPost (X : DIE) (w : World) (en : Ending) (w' : World) : Prop :=
  ∃ h', en = .returned (.tuple #[.agg (X.1.cells h'), .int .i64 X.2.1, .int .i64 X.2.2]) ∧ DocOwn w' w.heap.size X.1 h' ∧ Ext w w'
theorem diePost_err {X : DIE} {e : Int} {w w' : World} (he : X = (Doc.zero, 0, e)) (hx : Ext w w') : DIEPost X w (.returned (.tuple #[.agg docZero, .int .i64 0, .int .i64 e])) w' := by
  subst he
  exact ⟨docH0, by rw [docZero_cells], docZero_own _ _, hx⟩
section
variable {d : Doc} {e : Ev}
theorem ins_1 (h : d.err ≠ 0) : d.insX e = (Doc.zero, 0, d.err) := by
  have : d.insErr e = d.err := by unfold Doc.insErr; rw [if_pos h]
  unfold Doc.insX; rw [if_neg (by rw [this]; exact h), this]
theorem ins_2 {k : Int} (h : d.err = 0) (h1 : d.insE1 e = k) (hk : k ≠ 0) : d.insX e = (Doc.zero, 0, k) := by
  have : d.insErr e = k := by unfold Doc.insErr; rw [if_neg (by simpa using h), if_pos (by rw [h1]; exact hk), h1]
  unfold Doc.insX; rw [if_neg (by rw [this]; exact hk), this]
theorem ins_3 {k : Int} (h : d.err = 0) (h1 : d.insE1 e = 0) (h2 : (e.setId (d.insId e)).err d.regs = k) (hk : k ≠ 0) : d.insX e = (Doc.zero, 0, k) := by
  have : d.insErr e = k := by unfold Doc.insErr; rw [if_neg (by simpa using h), if_neg (by simpa using h1), if_pos (by rw [h2]; exact hk), h2]
  unfold Doc.insX; rw [if_neg (by rw [this]; exact hk), this]
theorem ins_4 (h : d.err = 0) (h1 : d.insE1 e = 0) (h2 : (e.setId (d.insId e)).err d.regs = 0) (h3 : 400 ≤ d.evs.length) : d.insX e = (Doc.zero, 0, 9) := by
  have : d.insErr e = 9 := by unfold Doc.insErr; rw [if_neg (by simpa using h), if_neg (by simpa using h1), if_neg (by simpa using h2), if_pos h3]
  unfold Doc.insX; rw [if_neg (by rw [this]; decide), this]
theorem ins_5 (h : d.err = 0) (h1 : d.insE1 e = 0) (h2 : (e.setId (d.insId e)).err d.regs = 0) (h3 : ¬ 400 ≤ d.evs.length) : d.insX e = (d.insD e, d.insId e, 0) := by
  have : d.insErr e = 0 := by unfold Doc.insErr; rw [if_neg (by simpa using h), if_neg (by simpa using h1), if_neg (by simpa using h2), if_neg h3]
  unfold Doc.insX; rw [if_pos this]
theorem e1_9 (h : e.id = 0) (h1 : 1099511627776 ≤ d.last) : d.insE1 e = 9 := by unfold Doc.insE1; rw [if_pos h, if_pos h1]
theorem e1_a (h : e.id = 0) (h1 : ¬ 1099511627776 ≤ d.last) : d.insE1 e = 0 := by unfold Doc.insE1; rw [if_pos h, if_neg h1]
theorem e1_2 (h : ¬ e.id = 0) (h1 : e.id < 1 ∨ d.last < e.id) : d.insE1 e = 2 := by unfold Doc.insE1; rw [if_neg h, if_pos h1]
theorem e1_7 (h : ¬ e.id = 0) (h1 : ¬ (e.id < 1 ∨ d.last < e.id)) (h2 : d.takenB e.id = true) : d.insE1 e = 7 := by unfold Doc.insE1; rw [if_neg h, if_neg h1, if_pos h2]
theorem e1_b (h : ¬ e.id = 0) (h1 : ¬ (e.id < 1 ∨ d.last < e.id)) (h2 : d.takenB e.id = false) : d.insE1 e = 0 := by unfold Doc.insE1; rw [if_neg h, if_neg h1, if_neg (by rw [h2]; decide)]
end
/-- heads whose rows lie somewhere: events -/
theorem evsAt_heads {w : World} {A : Option Addr} {n : Nat} {hs : List EH} {l : List Ev} (h : Sl w 7 (Cells EH.vals) A n hs) (hl : l.length = n) (hg : ∀ (i : Nat) (h : EH) (e : Ev), hs[i]? = some h → l[i]? = some e → h = EH.of e h.A h.n h.c ∧ EvAt w e h.A h.n h.c) : EvsAt w A n l := by
  refine ⟨hl, fun hn => ?_⟩
  obtain ⟨b, off, hA, hcs⟩ := h.2 hn
  refine ⟨b, off, hA, fun i e he => ?_⟩
  have hi : i < hs.length := by rw [h.1, ← hl]; exact (List.getElem?_eq_some_iff.1 he).1
  obtain ⟨x, hx⟩ : ∃ x, hs[i]? = some x := ⟨_, List.getElem?_eq_getElem hi⟩
  obtain ⟨hg1, hg2⟩ := hg i x e hx he
  refine ⟨x.A, x.n, x.c, ?_, hg2⟩
  have := hcs i x hx
  rw [hg1] at this
  exact this
theorem EvAt.setId {w : World} {e : Ev} {A : Option Addr} {n c : Nat} (h : EvAt w e A n c) (i : Int) : EvAt w (e.setId i) A n c := h
theorem EvSmall.setId {e : Ev} (h : EvSmall e) (i : Int) : EvSmall (e.setId i) := h
end Go.Proofs.YtagfedbdakmlgaaDoor

/-! TakenD -/
namespace Go.Proofs.YtagfedbdakmlgaaDoor
set_option linter.unusedVariables false
set_option linter.unusedSimpArgs false
open Go.RowKit
set_option maxHeartbeats 400000 in
theorem TFind1_any (x : Com) (g : Nat) (id : Int) (w : World) (hB : Blk w g 2 #[.int .i64 id]) :
    Calls Tryd.prog 63 #[.agg #[.int .i64 x.id, .int .i64 x.ev, .int .i64 x.fr, .int .i64 x.til, .string x.author, .string x.text, .bool x.done, .bool x.lost], .pointer (some ⟨g, 0, none⟩)] w fun e w' => e = .returned (.bool (x.id == id)) ∧ Ext w w' := by
  have HX := Lib.hid ((Ext.refl w).alloc (.cells #[.int .i64 x.id, .int .i64 x.ev, .int .i64 x.fr, .int .i64 x.til, .string x.author, .string x.text, .bool x.done, .bool x.lost] 31))
  have hg : ∀ o, (w.alloc o).cell? ⟨g, 0, none⟩ = some (.int .i64 id) := fun o => (hB.alloc o).cell 0
  have hlt := hB.lt
  clear hB
  go_enter Tryd.func63, Tryd.ntmps63
  go_wp2_with fail
  go_ret
  exact ⟨rfl, HX.out⟩
set_option maxRecDepth 100000 in
set_option maxHeartbeats 1000000 in
theorem TIndex_any (A : Option Addr) (n c : Nat) (l : List Com) (g : Nat) (id : Int) (w : World) (hl : ComsAt w A n l) (hn : n ≤ 4611686018427387904) (hB : Blk w g 2 #[.int .i64 id]) :
    Calls Tryd.prog 87 #[.slice A n c, .func (.func 63) #[] #[.pointer (some ⟨g, 0, none⟩)]] w fun e w' => e = .returned (.int .i64 (findCI l id)) ∧ Ext w w' := by
  have HE := Lib.hid hl
  have HLn := Lib.hid hl.len
  have HBg := Lib.hid hB
  clear hl hB
  go_enter Tryd.func87, Tryd.ntmps87
  go_wp2_with fail
  go_loopw [8] (fun i wr => CIxRel w n id l i wr) (fun i _ => n - (intOf i).toNat)
  case atStart => exact ⟨0, Nat.zero_le _, rfl, rfl, Ext.refl _⟩
  case round =>
    obtain ⟨k, hk, rfl, hF, hx⟩ := hrel
    have HF := Lib.hid hF
    clear hF
    by_cases hlt : k < n
    · obtain ⟨b, off, x, rfl, hxx, c0, c1, c2, c3, c4, c5, c6, c7⟩ := (HE.out.ext hx).at8 hlt
      have HXx := Lib.hid hxx
      have HCl := Lib.hid (TFind1_any x g id wr (HBg.out.ext hx))
      clear hxx
      by_cases he : x.id = id
      · have hb : (x.id == id) = true := by simpa using he
        have HV := Lib.hid (findC_here HF.out HXx.out he)
        rw [hb] at HCl
        clear he hb
        go_wp2_with fail
        refine HCl.out.mono ?_
        rintro en w2 ⟨rfl, hx2⟩
        go_wp2_with fail
        go_ret
        exact ⟨ret_int (by unfold findCI; rw [HV.out]), hx.trans hx2⟩
      · have hb : (x.id == id) = false := by simpa using he
        have HV := Lib.hid (findC_on HF.out HXx.out he)
        rw [hb] at HCl
        clear he hb
        go_wp2_with fail
        refine HCl.out.mono ?_
        rintro en w2 ⟨rfl, hx2⟩
        go_wp2_with fail
        exact ⟨⟨k + 1, by omega, by go_num, HV.out, hx.trans hx2⟩, by simp [intOf]; omega⟩
    · have hkn : k = n := by omega
      have HV : Hid (findC l id = none) := by
        show _ = _
        have h1 := HF.out
        rwa [List.take_of_length_le (by rw [HLn.out]; omega)] at h1
      subst hkn
      go_wp2_with fail
      go_ret
      exact ⟨ret_int (by unfold findCI; rw [HV.out]), hx⟩
set_option maxHeartbeats 400000 in
theorem TContains_any (A : Option Addr) (n c : Nat) (l : List Com) (g : Nat) (id : Int) (w : World) (hl : ComsAt w A n l) (hn : n ≤ 4611686018427387904) (hB : Blk w g 2 #[.int .i64 id]) :
    Calls Tryd.prog 62 #[.slice A n c, .func (.func 63) #[] #[.pointer (some ⟨g, 0, none⟩)]] w fun e w' => e = .returned (.bool (decide (0 ≤ findCI l id))) ∧ Ext w w' := by
  have HI := Lib.hid (TIndex_any A n c l g id w hl hn hB)
  clear hl hB
  go_enter Tryd.func62, Tryd.ntmps62
  go_wp2_with fail
  refine HI.out.mono ?_
  rintro en w2 ⟨rfl, hx2⟩
  go_wp2_with fail
  go_ret
  exact ⟨rfl, hx2⟩
set_option maxRecDepth 100000 in
set_option maxHeartbeats 1000000 in
theorem DTaken_any (d : Doc) (h : DocH) (id : Int) (w : World) (hat : DocAt w d h) (hn : h.en ≤ 1000000) (hcn : h.cn ≤ 1000000) :
    Calls Tryd.prog 36 #[.agg (d.cells h), .int .i64 id] w fun e w' => e = .returned (.bool (d.takenB id)) ∧ Ext w w' := by
  have HX : Hid (Ext w ((w.alloc (.cells (d.cells h) 39)).alloc (.cells #[.int .i64 id] 2))) := ((Ext.refl w).alloc _).alloc _
  have HB : Hid (Blk ((w.alloc (.cells (d.cells h) 39)).alloc (.cells #[.int .i64 id] 2)) w.heap.size 39 (d.cells h)) := (Blk.new w _ _).alloc _
  have HI : Hid (Blk ((w.alloc (.cells (d.cells h) 39)).alloc (.cells #[.int .i64 id] 2)) (w.heap.size + 1) 2 #[.int .i64 id]) := Blk.new' (by simp)
  have HF := Lib.hid (fun w' (hx : Ext w w') => DFind_any d h id w' (hat.evs.ext hx) (by omega))
  have HC := Lib.hid (fun w' (hx : Ext w w') g hB => TContains_any h.ca h.cn h.cc d.coms g id w' (hat.coms.ext hx) (by omega) hB)
  have HT : Hid (d.takenB id = (decide (0 ≤ findI d.evs id) || decide (0 ≤ findCI d.coms id))) := rfl
  clear hat
  obtain ⟨hra, nr, hrc, hea, hen, hec, hca, nc, hcc⟩ := h
  unfold Doc.cells at *
  dsimp only at *
  go_enter Tryd.func36, Tryd.ntmps36
  have hcb := fun o => HB.out.cell o
  have hci := fun o => HI.out.cell o
  go_wp2_with (refine wpList_loadB rfl 39 (.tmp 2) rfl w.heap.size 39 _ _ (by exact rfl) (by exact HB.out) Tryd.underlying39 rfl (by exact size_docI) ?_)
  clear hcb hci
  refine (HF.out _ HX.out).mono ?_
  rintro en w2 ⟨rfl, hx2⟩
  have HX2 := Lib.hid (HX.out.trans hx2)
  have HB2 := Lib.hid (HB.out.ext hx2)
  have HI2 := Lib.hid (HI.out.ext hx2)
  clear HX HB HI hx2
  have hcb := fun o => HB2.out.cell o
  by_cases h1 : 0 ≤ findI d.evs id
  · have HV : Hid (d.takenB id = true) := by show _ = _; rw [HT.out, decide_eq_true h1]; rfl
    go_wp2_with fail
    go_ret
    exact ⟨ret_bool HV.out.symm, HX2.out⟩
  have HV : Hid (d.takenB id = decide (0 ≤ findCI d.coms id)) := by show _ = _; rw [HT.out, decide_eq_false h1]; rfl
  go_wp2_with fail
  refine (HC.out _ HX2.out _ HI2.out).mono ?_
  rintro en w3 ⟨rfl, hx3⟩
  go_wp2_with fail
  go_ret
  exact ⟨ret_bool HT.out.symm, HX2.out.trans hx3⟩
end Go.Proofs.YtagfedbdakmlgaaDoor

/-! SortD -/
namespace Go.Proofs.YtagfedbdakmlgaaDoor
set_option linter.unusedVariables false
set_option linter.unusedSimpArgs false
open Go.RowKit
set_option maxRecDepth 100000 in
set_option maxHeartbeats 2000000 in
theorem sortF_d (x y : EH) (w : World) :
    Calls Tryd.prog 70 #[.agg x.vals.toArray, .agg y.vals.toArray] w fun e w' => e = .returned (.int .i64 (cmpH x y)) ∧ Extd w w' := by
  have HX := Lib.hid (((Extd.refl w).alloc (.cells x.vals.toArray 45)).alloc (.cells y.vals.toArray 45))
  have HV : Hid (orI (cmpI x.inn y.inn) (cmpI x.id y.id) = cmpH x y) := rfl
  unfold EH.vals at HX ⊢
  go_enter Tryd.func70, Tryd.ntmps70
  go_wp2_with fail
  go_region_held3 (fun w' => w'.cell? ⟨w.heap.size, 0, none⟩ = some (.int .i64 x.id) ∧ w'.cell? ⟨w.heap.size, 1, none⟩ = some (.int .i64 x.inn) ∧ w'.cell? ⟨w.heap.size + 1, 0, none⟩ = some (.int .i64 y.id) ∧ w'.cell? ⟨w.heap.size + 1, 1, none⟩ = some (.int .i64 y.inn)) (go_keep) (first | (go_at_call 72; refine (Compare_any _ _ _).mono ?_; rintro e w1 ⟨rfl, rfl⟩) | (go_at_call 71; refine (Or_any (cmpI x.inn y.inn) (cmpI x.id y.id) _ _ _ (by exact (Blk.drew (Blk.new' (by simp))).cell 0) (by exact (Blk.drew (Blk.new' (by simp))).cell 1)).mono ?_; rintro e w1 ⟨rfl, rfl⟩))
  go_wp2_with fail
  go_ret
  exact ⟨ret_int HV.out, (HX.out.drew).alloc _⟩
theorem sortF_lays (g off n : Nat) (w : World) : Go.Proofs.CmpLays Tryd.prog 70 #[] EH.vals 7 cmpH g off n w :=
  fun _ _ _ _ x y => (sortF_d x y _).mono fun _ _ ⟨he, hx⟩ => ⟨he, hx.grow⟩
theorem sortF_enter : ∀ args w, (callFunc 70 args).run Tryd.prog w = .ok (.enter 70 args) w := Go.Proofs.enters_of Tryd.func70 (by kernel_rfl) rfl
theorem EH.ones (x : EH) : ∀ v ∈ x.vals, v.oneCell' = true := by
  intro v hv
  simp only [EH.vals, List.mem_cons, List.not_mem_nil, or_false] at hv
  rcases hv with rfl | rfl | rfl | rfl | rfl | rfl | rfl <;> rfl
/-- events are sorted into memory of one's own -/
def SortPost (l : List Ev) (n : Nat) (w : World) (en : Ending) (w' : World) : Prop := ∃ v, en = .returned v ∧ EvsOwn w' w.heap.size v n (srtE l) ∧ Ext w w'
def SortLoop (l : List Ev) (n : Nat) (w : World) (v i : Value) (wr : World) : Prop := ∃ k : Nat, k ≤ n ∧ i = .int .i64 k ∧ Ext w wr ∧ EvsOwn wr w.heap.size v k (l.take k)
theorem SortLoop.step {w wr w2 : World} {k : Nat} {l : List Ev} {v v' : Value} {e : Ev} {hs : List EH} {A' : Option Addr} {n' c' : Nat} (hx : Ext w wr) (r : EvsOwn wr w.heap.size v k (l.take k)) (he : l[k]? = some e) (h1 : wr.ownsRow w.heap.size 45 7 v k (hs.flatMap EH.vals))
    (hg : EGood wr w.heap.size (EH.of e A' n' c') e) (hgr : wr.grownBy w2 v.ownBlock) (hO : w2.ownsRow w.heap.size 45 7 v' (k + 1) (hs.flatMap EH.vals ++ (e.cells A' n' c').toList)) : Ext w w2 ∧ EvsOwn w2 w.heap.size v' (k + 1) (l.take (k + 1)) := by
  refine ⟨hx.grown hgr (fun q hq => own_lt h1 q hq), ?_⟩
  rw [take_snoc' l k e he]
  exact r.push h1 hg hgr hO
/-- SortStableFunc at a row of events of one's own -/
theorem stable_own {w w0 : World} {L n : Nat} {v : Value} {l : List Ev} (h : EvsOwn w L v n l) (hn : n < 1152921504606846976) (hx : Ext w0 w) (hL : w0.heap.size ≤ L) :
    Calls Tryd.prog 69 #[v, .func (.func 70) #[] #[]] w fun e w' => e = .returned (.tuple #[]) ∧ EvsOwn w' L v n (srtE l) ∧ Ext w0 w' := by
  obtain ⟨hs, h1, h2, h3, h4⟩ := h
  rcases h1.2 with ⟨hv, hn0⟩ | ⟨g, c, cur, rfl, hg, hb, -⟩
  · subst hv
    refine (sortStable_nil stL _ w).mono ?_
    rintro e w' ⟨rfl, rfl⟩
    have hl : l = [] := List.length_eq_zero_iff.1 (by omega)
    subst hl
    exact ⟨rfl, ⟨hs, h1, h2, h3, fun i h e a b => by simp [srtE, Stb.sortS] at b⟩, hx⟩
  · have hg' : g < w.heap.size := (Array.getElem?_eq_some_iff.1 hb).1
    have hz : hs.toArray.size = n := by simp [h2]
    have hH := own_holds EH.len h1 h2
    have hcon := sortStable_st stL EH.vals cmpH 70 #[] g 0 c hs.toArray hs.toArray w w sortF_enter (sortF_lays g 0 _ w) ⟨EH.len, EH.ones, hH, hg'⟩ rfl (Go.Proofs.SWK.start hH) (by rw [hz]; exact hn) (by rw [ltOf_H]; exact ltH_sw)
    rw [hz] at hcon
    refine hcon.mono ?_
    rintro e w' ⟨rfl, d', hd', hS, hl⟩
    obtain ⟨hs', rfl⟩ : ∃ hs' : List EH, d' = hs'.toArray := ⟨d'.toList, by simp⟩
    refine ⟨rfl, EvsOwn.sorted h1 h2 h3 h4 hS (by rw [ltOf_H] at hl; simpa using hl), hx.grown (swk_grown hS) (fun q hq => by cases hq; omega)⟩
set_option maxRecDepth 100000 in
set_option maxHeartbeats 4000000 in
theorem DSort_any (l : List Ev) (A : Option Addr) (n c : Nat) (w : World) (hat : EvsAt w A n l) (hn : n * 88 ≤ 140737488355328) :
    Calls Tryd.prog 38 #[.slice A n c] w (SortPost l n w) := by
  have HE := Lib.hid hat
  have HEl := Lib.hid hat.len
  clear hat
  go_enter Tryd.func38, Tryd.ntmps38
  go_wp2_with fail
  go_loopw [3, 8] (fun v i wr => SortLoop l n w v i wr) (fun _ i _ => n - (intOf i).toNat)
  case atStart => exact ⟨0, Nat.zero_le _, rfl, Ext.refl w, EvsOwn.nil _ _⟩
  case round =>
    obtain ⟨k, hk, rfl, hx, hev⟩ := hrel
    have HXr := Lib.hid hx
    have HEv := Lib.hid hev
    clear hx hev
    by_cases hlt : k < n
    · obtain ⟨b, off, x, A', n', c', rfl, hxx, hxat, e0, e1, e2, e3, e4, e5, e6⟩ := (HE.out.ext HXr.out).at_ev hlt
      have HXx := Lib.hid hxx
      have HCn := Lib.hid (fun w' (hx : Ext wr w') => EClone_any x A' n' c' w' (hxat.ext hx))
      have hn24 := hxat.2.2
      clear hxx hxat
      unfold EClPost Ev.cells at HCn
      have HBx := Lib.hid (Blk.new wr 45 #[.int .i64 x.id, .int .i64 x.inn, .int .i64 x.out, .string x.region, .int .u8 x.kind, .string x.speaker, .slice A' n' c'])
      go_wp2_with (refine wpList_loadB rfl 45 (.tmp 5) rfl wr.heap.size 45 _ _ (by exact rfl) (by exact HBx.out) Tryd.underlying45 rfl (by exact size_event) ?_)
      clear e0 e1 e2 e3 e4 e5 e6
      refine (HCn.out _ ((Ext.refl wr).alloc _)).mono ?_
      rintro en w5 ⟨A5, c5, rfl, hnc5, hrf5, hx5⟩
      have HX5 := Lib.hid (((Ext.refl wr).alloc (.cells #[.int .i64 x.id, .int .i64 x.inn, .int .i64 x.out, .string x.region, .int .u8 x.kind, .string x.speaker, .slice A' n' c'] 45)).trans hx5)
      have HRf := Lib.hid hrf5
      have hsz := HXr.out.size
      have hsz5 := HX5.out.size
      obtain ⟨hs, hown⟩ := (HEv.out.ext HX5.out).heads
      have HOw := Lib.hid hown
      clear hrf5 hx5 hown
      go_wp2_with (at_builtin; refine wpList_append1 rfl (.tmp 12) (.tmp 15) 36 rfl info_evtI Tryd.underlying36 rfl (by decide) (HOw.out.alloc _) (by exact rfl) w5.heap.size _ (by exact rfl) (by exact Blk.new' (by simp)) (by exact rfl) (by simp [Value.oneCell']) (by omega) (by simp [maxLen]; omega) (by simp; omega) ?_; intro v' w6 hown' hgr)
      have hg : EGood (w5.alloc (.cells #[.int .i64 x.id, .int .i64 x.inn, .int .i64 x.out, .string x.region, .int .u8 x.kind, .string x.speaker, .slice A5 n' c5] 45)) w.heap.size (EH.of x A5 n' c5) x := ⟨rfl, hnc5, hn24, (HRf.out.ext ((Ext.refl w5).alloc _)).le (by simp; omega)⟩
      have hst := SortLoop.step (HXr.out.trans (HX5.out.trans ((Ext.refl w5).alloc (.cells #[.int .i64 x.id, .int .i64 x.inn, .int .i64 x.out, .string x.region, .int .u8 x.kind, .string x.speaker, .slice A5 n' c5] 45)))) ((HEv.out.ext HX5.out).ext ((Ext.refl w5).alloc (.cells #[.int .i64 x.id, .int .i64 x.inn, .int .i64 x.out, .string x.region, .int .u8 x.kind, .string x.speaker, .slice A5 n' c5] 45))) HXx.out (HOw.out.alloc _) hg hgr hown'
      exact ⟨⟨k + 1, by omega, by go_num, hst.1, hst.2⟩, by simp [intOf]; omega⟩
    · have hkn : k = n := by omega
      subst hkn
      have htk : l.take k = l := List.take_of_length_le (by rw [HEl.out]; omega)
      have hev := HEv.out
      rw [htk] at hev
      obtain ⟨A6, c6, hv, hc6, -, -⟩ := hev.at_
      subst hv
      have HS := Lib.hid (stable_own hev (by omega) HXr.out (Nat.le_refl _))
      clear hev htk HEv
      go_wp2_with fail
      refine HS.out.mono ?_
      rintro en w9 ⟨rfl, ho9, hx9⟩
      go_wp2_with fail
      go_ret
      exact ⟨_, rfl, ho9, hx9⟩
end Go.Proofs.YtagfedbdakmlgaaDoor
