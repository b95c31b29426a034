/- Laid together: DERIVED: THE SHELF's CONTRACTS AT THIS DUMP, IN PLAIN WORDS (tools/lay-plain.mjs out of 'TryzSrt.lean', which tools/lay-shelf.mjs wrote): THE SAME DECLARATIONS UNDER THE SAME NAMES: 'import', 'namespace', 'open', 'def', 'theorem' AND NOTHING ELSE: no command of the shelf's: FOR A HAND-IN. Each laying: the table of numbers ('.._ren') and one theorem, a field a fact of the dump's own or the kernel's comparison; each contract: ONE APPLICATION. The walks of document.Find, with what is drawn. The walk of slices.DeleteFunc of comments, at the closure of comment.Open: the comments that are neither done nor lost stay. The comparison of comment.Open: the places of the events, the beginnings, the numbers. What the law on Follow asks, plainly. -/
import Derived.Shelf.SlSortCmp.KitK
import Derived.Ground.SlsfProg
import Derived.Ground.SlgcProg
import Derived.Test.YtagfedbdakmlgaaGreatDoorProg
import Derived.Test.YtagfedbdakmlgaaGreatDoorSt08
import Derived.Test.YtagfedbdakmlgaaGreatDoorSt13
import Derived.Test.YtagfedbdakmlgaaGreatDoorSt16
import Derived.Test.YtagfedbdakmlgaaGreatDoorSt11
import Derived.Test.YtagfedbdakmlgaaGreatDoorSt05
import Derived.Test.YtagfedbdakmlgaaGreatDoorSt15

/-! LaySrt -/
namespace Go.Proofs
open Go.Shelf
def Tryz.srtCom_ren : Go.Shelf.Ren := ⟨fun | 6 => 117 | 15 => 161 | 14 => 160 | 28 => 200 | 29 => 201 | 20 => 192 | 21 => 193 | 22 => 194 | 23 => 195 | 24 => 196 | 25 => 197 | 26 => 198 | 27 => 199 | 46 => 213 | 47 => 214 | 48 => 215 | 49 => 216 | 50 => 217 | 57 => 227 | n => n, fun | 22 => 25 | 24 => 78 | 25 => 139 | 3 => 3 | 39 => 40 | 0 => 0 | 53 => 216 | 55 => 218 | 4 => 4 | 46 => 210 | 45 => 209 | 50 => 124 | 5 => 5 | 9 => 9 | 66 => 224 | 70 => 228 | 76 => 236 | 77 => 237 | n => n, fun | n => n⟩
theorem Tryz.srtCom : Go.Proofs.SlLaysF0.n6 Tryz.prog Tryz.srtCom_ren := {
  mixed := by kernel_rfl
  f6 := ⟨Tryz.f117.name, by decide, Tryz.func117.trans (congrArg some (by kernel_rfl))⟩
  f14 := ⟨Tryz.f160.name, by decide, Tryz.func160.trans (congrArg some (by kernel_rfl))⟩
  f15 := Tryz.func161.trans (congrArg some (by kernel_rfl))
  f20 := ⟨Tryz.f192.name, by decide, Tryz.func192.trans (congrArg some (by kernel_rfl))⟩
  f21 := ⟨Tryz.f193.name, by decide, Tryz.func193.trans (congrArg some (by kernel_rfl))⟩
  f22 := ⟨Tryz.f194.name, by decide, Tryz.func194.trans (congrArg some (by kernel_rfl))⟩
  f23 := ⟨Tryz.f195.name, by decide, Tryz.func195.trans (congrArg some (by kernel_rfl))⟩
  f24 := ⟨Tryz.f196.name, by decide, Tryz.func196.trans (congrArg some (by kernel_rfl))⟩
  f25 := ⟨Tryz.f197.name, by decide, Tryz.func197.trans (congrArg some (by kernel_rfl))⟩
  f26 := ⟨Tryz.f198.name, by decide, Tryz.func198.trans (congrArg some (by kernel_rfl))⟩
  f27 := ⟨Tryz.f199.name, by decide, Tryz.func199.trans (congrArg some (by kernel_rfl))⟩
  f28 := Tryz.func200.trans (congrArg some (by kernel_rfl))
  f29 := Tryz.func201.trans (congrArg some (by kernel_rfl))
  f46 := ⟨Tryz.f213.name, by decide, Tryz.func213.trans (congrArg some (by kernel_rfl))⟩
  f47 := Tryz.func214.trans (congrArg some (by kernel_rfl))
  f48 := Tryz.func215.trans (congrArg some (by kernel_rfl))
  f49 := ⟨Tryz.f216.name, by decide, Tryz.func216.trans (congrArg some (by kernel_rfl))⟩
  f50 := ⟨Tryz.f217.name, by decide, Tryz.func217.trans (congrArg some (by kernel_rfl))⟩
  f57 := ⟨Tryz.f227.name, by decide, Tryz.func227.trans (congrArg some (by kernel_rfl))⟩
  t0 := Tryz.underlying0
  a0 := Tryz.isAgg0
  z0 := Tryz.sizeOf0
  v0 := Tryz.zeroValue0
  t3 := Tryz.underlying3
  a3 := Tryz.isAgg3
  z3 := Tryz.sizeOf3
  v3 := Tryz.zeroValue3
  t4 := Tryz.underlying4
  a4 := Tryz.isAgg4
  z4 := Tryz.sizeOf4
  v4 := Tryz.zeroValue4
  t5 := Tryz.underlying5
  a5 := Tryz.isAgg5
  z5 := Tryz.sizeOf5
  v5 := Tryz.zeroValue5
  t9 := Tryz.underlying9
  a9 := Tryz.isAgg9
  z9 := Tryz.sizeOf9
  v9 := Tryz.zeroValue9
  t22 := Tryz.underlying25
  a22 := Tryz.isAgg25
  z22 := Tryz.sizeOf25
  v22 := Tryz.zeroValue25
  t25 := Tryz.underlying139
  a25 := Tryz.isAgg139
  z25 := Tryz.sizeOf139
  v25 := Tryz.zeroValue139
  t39 := Tryz.underlying40
  a39 := Tryz.isAgg40
  z39 := Tryz.sizeOf40
  v39 := Tryz.zeroValue40
  t45 := Tryz.underlying209
  a45 := Tryz.isAgg209
  z45 := Tryz.sizeOf209
  v45 := Tryz.zeroValue209
  t46 := Tryz.underlying210
  a46 := Tryz.isAgg210
  z46 := Tryz.sizeOf210
  v46 := Tryz.zeroValue210
  t50 := Tryz.underlying124
  a50 := Tryz.isAgg124
  z50 := Tryz.sizeOf124
  v50 := Tryz.zeroValue124
  t53 := Tryz.underlying216
  a53 := Tryz.isAgg216
  z53 := Tryz.sizeOf216
  v53 := Tryz.zeroValue216
  t55 := Tryz.underlying218
  a55 := Tryz.isAgg218
  z55 := Tryz.sizeOf218
  v55 := Tryz.zeroValue218
  t66 := Tryz.underlying224
  a66 := Tryz.isAgg224
  z66 := Tryz.sizeOf224
  v66 := Tryz.zeroValue224
  t70 := Tryz.underlying228
  a70 := Tryz.isAgg228
  z70 := Tryz.sizeOf228
  v70 := Tryz.zeroValue228
  t76 := Tryz.underlying236
  a76 := Tryz.isAgg236
  z76 := Tryz.sizeOf236
  v76 := Tryz.zeroValue236
  t77 := Tryz.underlying237
  a77 := Tryz.isAgg237
  z77 := Tryz.sizeOf237
  v77 := Tryz.zeroValue237 }
end Go.Proofs

/-! FindX -/
namespace Go.Proofs.YtagfedbdakmlgaaGreatDoor
set_option linter.unusedVariables false
set_option linter.unusedSimpArgs false
open Go.RowKit
set_option maxHeartbeats 400000 in
theorem DFind1_x (x : Ev) (A' : Option Addr) (n' c' : Nat) (g : Nat) (id : Int) (w : World) (hB : Blk w g 2 #[.int .i64 id]) :
    Calls Tryz.prog 105 #[.agg #[.int .i64 x.id, .int .i64 x.inn, .int .i64 x.out, .string x.region, .int .u8 x.kind, .string x.speaker, .slice A' n' c'], .pointer (some ⟨g, 0, none⟩)] w fun e w' => e = .returned (.bool (x.id == id)) ∧ Extd w w' := by
  have HX := Lib.hid ((Extd.refl w).alloc (.cells #[.int .i64 x.id, .int .i64 x.inn, .int .i64 x.out, .string x.region, .int .u8 x.kind, .string x.speaker, .slice A' n' c'] 66))
  have hg : ∀ o, (w.alloc o).cell? ⟨g, 0, none⟩ = some (.int .i64 id) := fun o => (hB.alloc o).cell 0
  have hlt := hB.lt
  clear hB
  go_enter Tryz.func105, Tryz.ntmps105
  go_wp2_with fail
  go_ret
  exact ⟨rfl, HX.out⟩
def DIxRelX (w1 : World) (n : Nat) (id : Int) (l : List Ev) (i : Value) (wr : World) : Prop := ∃ k : Nat, k ≤ n ∧ i = .int .i64 k ∧ findE (l.take k) id = none ∧ Extd w1 wr
set_option maxRecDepth 100000 in
set_option maxHeartbeats 1000000 in
theorem DIndex_x (A : Option Addr) (n c : Nat) (l : List Ev) (g : Nat) (id : Int) (w : World) (hl : EvsAt w A n l) (hn : n ≤ 4611686018427387904) (hB : Blk w g 2 #[.int .i64 id]) :
    Calls Tryz.prog 104 #[.slice A n c, .func (.func 105) #[] #[.pointer (some ⟨g, 0, none⟩)]] w fun e w' => e = .returned (.int .i64 (findI l id)) ∧ Extd w w' := by
  have HE := Lib.hid hl
  have HLn := Lib.hid hl.len
  have HBg := Lib.hid hB
  clear hl hB
  go_enter Tryz.func104, Tryz.ntmps104
  go_wp2_with fail
  go_loopw [8] (fun i wr => DIxRelX w n id l i wr) (fun i _ => n - (intOf i).toNat)
  case atStart => exact ⟨0, Nat.zero_le _, rfl, rfl, Extd.refl _⟩
  case round =>
    obtain ⟨k, hk, rfl, hF, hx⟩ := hrel
    have HF := Lib.hid hF
    clear hF
    by_cases hlt : k < n
    · obtain ⟨b, off, x, A', n', c', rfl, hxx, -, c0, c1, c2, c3, c4, c5, c6⟩ := (HE.out.ext hx.ext).at_ev hlt
      have HXx := Lib.hid hxx
      have HCl := Lib.hid (DFind1_x x A' n' c' g id wr (HBg.out.ext hx.ext))
      clear hxx
      by_cases he : x.id = id
      · have hb : (x.id == id) = true := by simpa using he
        have HV := Lib.hid (findE_here HF.out HXx.out he)
        rw [hb] at HCl
        clear he hb
        go_wp2_with fail
        refine HCl.out.mono ?_
        rintro en w2 ⟨rfl, hx2⟩
        go_wp2_with fail
        go_ret
        exact ⟨ret_int (by unfold findI; rw [HV.out]), hx.trans hx2⟩
      · have hb : (x.id == id) = false := by simpa using he
        have HV := Lib.hid (findE_on HF.out HXx.out he)
        rw [hb] at HCl
        clear he hb
        go_wp2_with fail
        refine HCl.out.mono ?_
        rintro en w2 ⟨rfl, hx2⟩
        go_wp2_with fail
        exact ⟨⟨k + 1, by omega, by go_num, HV.out, hx.trans hx2⟩, by simp [intOf]; omega⟩
    · have hkn : k = n := by omega
      have HV : Hid (findE l id = none) := by
        show _ = _
        have h1 := HF.out
        rwa [List.take_of_length_le (by rw [HLn.out]; omega)] at h1
      subst hkn
      go_wp2_with fail
      go_ret
      exact ⟨ret_int (by unfold findI; rw [HV.out]), hx⟩
set_option maxHeartbeats 1000000 in
theorem DFind_x (d : Doc) (h : DocH) (id : Int) (w : World) (hat : EvsAt w h.ea h.en d.evs) (hn : h.en ≤ 4611686018427387904) :
    Calls Tryz.prog 38 #[.agg (d.cells h), .int .i64 id] w fun e w' => e = .returned (.int .i64 (findI d.evs id)) ∧ Extd w w' := by
  have HX : Hid (Extd w ((w.alloc (.cells (d.cells h) 27)).alloc (.cells #[.int .i64 id] 2))) := ((Extd.refl w).alloc _).alloc _
  have HI := Lib.hid (fun w' (hx : Extd w w') g hB => DIndex_x h.ea h.en h.ec d.evs g id w' (hat.ext hx.ext) hn hB)
  clear hat
  unfold Doc.cells at *
  go_enter Tryz.func38, Tryz.ntmps38
  go_wp2_with fail
  refine (HI.out _ HX.out (w.heap.size + 1) (Blk.new' (by simp))).mono ?_
  rintro en w2 ⟨rfl, hx2⟩
  go_wp2_with fail
  go_ret
  exact ⟨rfl, HX.out.trans hx2⟩
end Go.Proofs.YtagfedbdakmlgaaGreatDoor

/-! DelF -/
namespace Go.Proofs.YtagfedbdakmlgaaGreatDoor
set_option linter.unusedVariables false
set_option linter.unusedSimpArgs false
open Go.RowKit
def Com.gone (c : Com) : Bool := c.done || c.lost
def goneI (l : List Com) : Option Nat := l.findIdx? Com.gone
def openL (l : List Com) : List Com := l.filter fun c => !c.gone
theorem gone_snoc (l : List Com) (x : Com) : goneI (l ++ [x]) = match goneI l with | some k => some k | none => if x.gone then some l.length else none := by
  unfold goneI
  rw [List.findIdx?_append]
  cases h : l.findIdx? Com.gone with
  | some k => simp
  | none => simp [List.findIdx?_cons]
theorem gone_here {l : List Com} {k : Nat} {x : Com} (h : goneI (l.take k) = none) (hx : l[k]? = some x) (he : x.gone = true) : goneI l = some k := by
  obtain ⟨hk, hxk⟩ := List.getElem?_eq_some_iff.1 hx
  unfold goneI at h ⊢
  rw [List.findIdx?_eq_some_iff_getElem]
  refine ⟨hk, by rw [hxk]; exact he, fun j hj => ?_⟩
  have h2 := List.findIdx?_eq_none_iff.1 h (l[j]'(by omega)) (List.mem_of_getElem? (i := j) (by rw [List.getElem?_take, if_pos hj]; exact List.getElem?_eq_getElem _))
  simpa using h2
theorem gone_on {l : List Com} {k : Nat} {x : Com} (h : goneI (l.take k) = none) (hx : l[k]? = some x) (he : x.gone = false) : goneI (l.take (k + 1)) = none := by
  rw [take_snoc' l k x hx, gone_snoc, h]
  simp [he]
theorem open_none {l : List Com} (h : goneI l = none) : openL l = l := by
  unfold goneI at h
  unfold openL
  rw [List.filter_eq_self]
  intro c hc
  have := List.findIdx?_eq_none_iff.1 h c hc
  simp [this]
set_option maxHeartbeats 400000 in
theorem OpenP_any (x : Com) (w : World) :
    Calls Tryz.prog 116 #[.agg #[.int .i64 x.id, .int .i64 x.ev, .int .i64 x.fr, .int .i64 x.til, .string x.author, .string x.text, .bool x.done, .bool x.lost]] w fun e w' => e = .returned (.bool x.gone) ∧ Ext w w' := by
  obtain ⟨x1, x2, x3, x4, x5, x6, x7, x8⟩ := x
  unfold Com.gone
  dsimp only
  cases x7
  · have HX := Lib.hid ((Ext.refl w).alloc (.cells #[.int .i64 x1, .int .i64 x2, .int .i64 x3, .int .i64 x4, .string x5, .string x6, .bool false, .bool x8] 78))
    go_enter Tryz.func116, Tryz.ntmps116
    go_wp2_with fail
    go_ret
    exact ⟨by simp, HX.out⟩
  · have HX := Lib.hid ((Ext.refl w).alloc (.cells #[.int .i64 x1, .int .i64 x2, .int .i64 x3, .int .i64 x4, .string x5, .string x6, .bool true, .bool x8] 78))
    go_enter Tryz.func116, Tryz.ntmps116
    go_wp2_with fail
    go_ret
    exact ⟨by simp, HX.out⟩
def OIxRel (w1 : World) (n : Nat) (l : List Com) (i : Value) (wr : World) : Prop := ∃ k : Nat, k ≤ n ∧ i = .int .i64 k ∧ goneI (l.take k) = none ∧ Ext w1 wr
def goneInt (l : List Com) : Int := match goneI l with | none => -1 | some k => (k : Int)
set_option maxRecDepth 100000 in
set_option maxHeartbeats 1000000 in
theorem OIndex_any (A : Option Addr) (n c : Nat) (l : List Com) (w : World) (hl : ComsAt w A n l) (hn : n ≤ 4611686018427387904) :
    Calls Tryz.prog 88 #[.slice A n c, .func (.func 116) #[] #[]] w fun e w' => e = .returned (.int .i64 (goneInt l)) ∧ Ext w w' := by
  have HE := Lib.hid hl
  have HLn := Lib.hid hl.len
  clear hl
  go_enter Tryz.func88, Tryz.ntmps88
  go_wp2_with fail
  go_loopw [8] (fun i wr => OIxRel w n l i wr) (fun i _ => n - (intOf i).toNat)
  case atStart => exact ⟨0, Nat.zero_le _, rfl, rfl, Ext.refl _⟩
  case round =>
    obtain ⟨k, hk, rfl, hF, hx⟩ := hrel
    have HF := Lib.hid hF
    clear hF
    by_cases hlt : k < n
    · obtain ⟨b, off, x, rfl, hxx, c0, c1, c2, c3, c4, c5, c6, c7⟩ := (HE.out.ext hx).at8 hlt
      have HXx := Lib.hid hxx
      have HCl := Lib.hid (OpenP_any x wr)
      clear hxx
      cases he : x.gone with
      | true =>
        have HV := Lib.hid (gone_here HF.out HXx.out he)
        rw [he] at HCl
        clear he
        go_wp2_with fail
        refine HCl.out.mono ?_
        rintro en w2 ⟨rfl, hx2⟩
        go_wp2_with fail
        go_ret
        exact ⟨ret_int (by unfold goneInt; rw [HV.out]), hx.trans hx2⟩
      | false =>
        have HV := Lib.hid (gone_on HF.out HXx.out he)
        rw [he] at HCl
        clear he
        go_wp2_with fail
        refine HCl.out.mono ?_
        rintro en w2 ⟨rfl, hx2⟩
        go_wp2_with fail
        exact ⟨⟨k + 1, by omega, by go_num, HV.out, hx.trans hx2⟩, by simp [intOf]; omega⟩
    · have hkn : k = n := by omega
      have HV : Hid (goneI l = none) := by
        show _ = _
        have h1 := HF.out
        rwa [List.take_of_length_le (by rw [HLn.out]; omega)] at h1
      subst hkn
      go_wp2_with fail
      go_ret
      exact ⟨ret_int (by unfold goneInt; rw [HV.out]), hx⟩
/-- what is left of the list, some of its comments moved ahead -/
structure DfS (l C : List Com) (n q k : Nat) : Prop where
  len : C.length = n
  qk : q ≤ k
  kn : k ≤ n
  pre : C.take q = openL (l.take k)
  post : C.drop k = l.drop k
theorem DfS.start {l : List Com} {n k : Nat} (hl : l.length = n) (h : goneI l = some k) : DfS l l n k (k + 1) ∧ k < n := by
  obtain ⟨hk, hx, hb⟩ := List.findIdx?_eq_some_iff_getElem.1 h
  refine ⟨⟨hl, by omega, by omega, ?_, rfl⟩, by omega⟩
  rw [take_snoc' l k l[k] (List.getElem?_eq_getElem hk)]
  unfold openL
  rw [List.filter_append]
  have h1 : (l.take k).filter (fun c => !c.gone) = l.take k := by
    rw [List.filter_eq_self]
    intro c hc
    obtain ⟨j, hj, he⟩ := List.mem_take_iff_getElem.1 hc
    have := hb j (by omega)
    rw [he] at this
    simpa using this
  rw [h1]
  simp [hx]
theorem DfS.at_ {l C : List Com} {n q k : Nat} (h : DfS l C n q k) (hl : l.length = n) (hk : k < n) : ∃ x, C[k]? = some x ∧ l[k]? = some x := by
  have h1 : (C.drop k)[0]? = (l.drop k)[0]? := by rw [h.post]
  rw [List.getElem?_drop, List.getElem?_drop, Nat.add_zero] at h1
  obtain ⟨x, hx⟩ : ∃ x, l[k]? = some x := ⟨_, List.getElem?_eq_getElem (by omega)⟩
  exact ⟨x, by rw [h1, hx], hx⟩
theorem DfS.skip {l C : List Com} {n q k : Nat} {x : Com} (h : DfS l C n q k) (hk : k < n) (hx : l[k]? = some x) (hg : x.gone = true) : DfS l C n q (k + 1) := by
  refine ⟨h.len, by have := h.qk; omega, by omega, ?_, ?_⟩
  · rw [take_snoc' l k x hx]
    unfold openL
    rw [List.filter_append]
    have := h.pre
    unfold openL at this
    rw [this]
    simp [hg]
  · rw [← List.drop_drop, ← List.drop_drop, h.post]
theorem DfS.keep {l C : List Com} {n q k : Nat} {x : Com} (h : DfS l C n q k) (hk : k < n) (hx : l[k]? = some x) (hg : x.gone = false) : DfS l (C.set q x) n (q + 1) (k + 1) := by
  have hq := h.qk
  have hl := h.len
  refine ⟨by rw [List.length_set]; exact hl, by omega, by omega, ?_, ?_⟩
  · rw [take_snoc' l k x hx]
    unfold openL
    rw [List.filter_append, take_snoc' (C.set q x) q x (List.getElem?_set_self (by omega))]
    have := h.pre
    unfold openL at this
    rw [← this, List.take_set_of_le (Nat.le_refl q)]
    simp [hg]
  · rw [List.drop_set_of_lt (by omega), ← List.drop_drop, ← List.drop_drop, h.post]
theorem clear_zero {P : Program} {w : World} {t e ty : TypeId} {z : Value} (ht : P.underlying t = some (.slice e)) (hv : ∀ w, (zeroValue e).run P w = .ok z w) {ad : Addr} {c : Nat} : (Builtin.clear_ #[t] ty #[.slice (some ad) 0 c]).run P w = .ok (.tuple #[]) w := by
  simp [Builtin.clear_, run_underlying ht]
def DfRel (w0 : World) (L g n c : Nat) (l : List Com) (iq ik : Value) (wr : World) : Prop :=
  ∃ (q k : Nat) (C : List Com), iq = .int .i64 q ∧ ik = .int .i64 k ∧ DfS l C n q k ∧ Ext w0 wr ∧ wr.ownsRow L 78 8 (.slice (some ⟨g, 0, none⟩) n c) n (C.flatMap Com.vals)
def DfPost (w0 : World) (L g c : Nat) (l : List Com) (en : Ending) (w' : World) : Prop :=
  en = .returned (.slice (some ⟨g, 0, none⟩) (openL l).length c) ∧ Ext w0 w' ∧ w'.ownsRow L 78 8 (.slice (some ⟨g, 0, none⟩) (openL l).length c) (openL l).length ((openL l).flatMap Com.vals)
set_option maxRecDepth 100000 in
set_option maxHeartbeats 4000000 in
theorem DelF_any {w0 w : World} {L g n c : Nat} {l : List Com} (hx0 : Ext w0 w) (hL : w0.heap.size ≤ L) (hown : w.ownsRow L 78 8 (.slice (some ⟨g, 0, none⟩) n c) n (l.flatMap Com.vals)) (hl : l.length = n) (hn : n ≤ 4611686018427387904) :
    Calls Tryz.prog 114 #[.slice (some ⟨g, 0, none⟩) n c, .func (.func 116) #[] #[]] w (DfPost w0 L g c l) := by
  have hat : ComsAt w (some ⟨g, 0, none⟩) n l := by
    obtain ⟨A', c', hv, -, -, hsl, -⟩ := own_sl (f := Com.vals) (size := 8) (fun _ => rfl) hl hown
    injection hv with e1 e2 e3
    rw [e1]
    exact hsl
  have hLg : L ≤ g := own_lt hown g rfl
  have HIx := Lib.hid (OIndex_any (some ⟨g, 0, none⟩) n c l w hat hn)
  have HO := Lib.hid hown
  clear hat hown
  go_enter Tryz.func114, Tryz.ntmps114
  go_wp2_with fail
  refine HIx.out.mono ?_
  rintro en w1 ⟨rfl, hx1⟩
  have HO1 := Lib.hid (own_ext HO.out hx1)
  have HX1 := Lib.hid (hx0.trans hx1)
  clear hx1 HIx HO
  cases hg : goneI l with
  | none =>
    have hgi : goneInt l = -1 := by unfold goneInt; rw [hg]
    have HV := Lib.hid (open_none hg)
    rw [hgi]
    clear hg hgi
    go_wp2_with fail
    go_ret
    unfold DfPost
    rw [HV.out, hl]
    exact ⟨rfl, HX1.out, HO1.out⟩
  | some k0 =>
    have hgi : goneInt l = (k0 : Int) := by unfold goneInt; rw [hg]
    obtain ⟨hS, hk0⟩ := DfS.start hl hg
    have HS := Lib.hid hS
    rw [hgi]
    clear hg hgi hS
    have hne : ((k0 : Int) == -1) = false := by simp
    go_wp2_with fail
    go_loopw [5, 6] (fun iq ik wr => DfRel w0 L g n c l iq ik wr) (fun _ ik _ => n - (intOf ik).toNat)
    case atStart => exact ⟨k0, k0 + 1, l, rfl, by go_num, HS.out, HX1.out, HO1.out⟩
    case round =>
      clear HO1 HX1 HS hne hk0
      obtain ⟨q, k, C, rfl, rfl, hS, hx, hO⟩ := hrel
      have HS := Lib.hid hS
      have HO := Lib.hid hO
      have hqk := hS.qk
      have hkn := hS.kn
      have hCl := hS.len
      by_cases hlt : k < n
      · obtain ⟨x, hCx, hlx⟩ := hS.at_ hl hlt
        have HLx := Lib.hid hlx
        have hc : ∀ j, j < 8 → wr.cell? ⟨g, k * 8 + j, none⟩ = x.vals[j]? := fun j hj => by rw [hO.cellAt (k * 8 + j) (by omega), flatMap_at Com.vals 8 (fun _ => rfl) C k x j hCx hj]
        have c0 : wr.cell? ⟨g, k * 8, none⟩ = some (.int .i64 x.id) := hc 0 (by omega)
        have c1 : wr.cell? ⟨g, k * 8 + 1, none⟩ = some (.int .i64 x.ev) := hc 1 (by omega)
        have c2 : wr.cell? ⟨g, k * 8 + 2, none⟩ = some (.int .i64 x.fr) := hc 2 (by omega)
        have c3 : wr.cell? ⟨g, k * 8 + 3, none⟩ = some (.int .i64 x.til) := hc 3 (by omega)
        have c4 : wr.cell? ⟨g, k * 8 + 4, none⟩ = some (.string x.author) := hc 4 (by omega)
        have c5 : wr.cell? ⟨g, k * 8 + 5, none⟩ = some (.string x.text) := hc 5 (by omega)
        have c6 : wr.cell? ⟨g, k * 8 + 6, none⟩ = some (.bool x.done) := hc 6 (by omega)
        have c7 : wr.cell? ⟨g, k * 8 + 7, none⟩ = some (.bool x.lost) := hc 7 (by omega)
        have hk0 : (0 : Int) ≤ (k : Int) := by omega
        have hk1 : (k : Int) < (n : Int) := by omega
        have hal := (Ext.refl wr).alloc (.cells #[.int .i64 x.id, .int .i64 x.ev, .int .i64 x.fr, .int .i64 x.til, .string x.author, .string x.text, .bool x.done, .bool x.lost] 78)
        have HBx := Lib.hid (Blk.new wr 78 #[.int .i64 x.id, .int .i64 x.ev, .int .i64 x.fr, .int .i64 x.til, .string x.author, .string x.text, .bool x.done, .bool x.lost])
        have HXa := Lib.hid (hx.trans hal)
        have HOa := Lib.hid (own_ext HO.out hal)
        have hgl : g < wr.heap.size := World.block_lt_of_cell? wr _ c0
        clear hc hCx hlx hS hO
        go_upto_region 8 with fail
        clear c0 c1 c2 c3 c4 c5 c6 c7
        obtain ⟨Wx, hWx⟩ : ∃ Wx, Wx = wr.alloc (.cells #[.int .i64 x.id, .int .i64 x.ev, .int .i64 x.fr, .int .i64 x.til, .string x.author, .string x.text, .bool x.done, .bool x.lost] 78) := ⟨_, rfl⟩
        rw [← hWx] at HBx HXa HOa ⊢
        clear hWx hal
        have HCl := Lib.hid (OpenP_any x Wx)
        have hcx := fun o => HBx.out.cell o
        cases he : x.gone with
        | true =>
          rw [he] at HCl
          have HK := Lib.hid (HS.out.skip hlt HLx.out he)
          clear he
          go_wp2_with fail
          refine HCl.out.mono ?_
          rintro en w2 ⟨rfl, hx2⟩
          clear hcx
          go_wp2_with fail
          exact ⟨⟨q, k + 1, C, rfl, by go_num, HK.out, HXa.out.trans hx2, own_ext HOa.out hx2⟩, by simp [intOf]; omega⟩
        | false =>
          rw [he] at HCl
          have HK := Lib.hid (HS.out.keep hlt HLx.out he)
          clear he
          go_wp2_with fail
          refine HCl.out.mono ?_
          rintro en w2 ⟨rfl, hx2⟩
          have HB2 := Lib.hid (HBx.out.ext hx2)
          have HO2 := Lib.hid (own_ext HOa.out hx2)
          have hT : Typed w2 78 g := own_typed HO2.out g rfl
          have hqn : q < n := by omega
          have hq0 : (0 : Int) ≤ (q : Int) := by omega
          have hq1 : (q : Int) < (n : Int) := by omega
          clear hcx
          have hw8 : w2.there g (q * 8) 8 := fun j hj => by
            have h8 : q * 8 + j < (C.flatMap Com.vals).length := by rw [flatMap_len Com.vals 8 (fun _ => rfl), hCl]; omega
            exact ⟨by rw [HO2.out.cellAt (q * 8 + j) (by omega), List.getElem?_eq_getElem h8]; rfl, hT.frozen _⟩
          have HTh := Lib.hid hw8
          have HXs := Lib.hid (ext_sets (by omega) x.vals (q * 8) _ (HXa.out.trans hx2) : Ext w0 (w2.setCells g (q * 8) x.vals))
          have HOs := Lib.hid (own_sets x.vals (q * 8) _ _ HO2.out)
          rw [flat_setMany (f := Com.vals) (size := 8) (fun _ => rfl) C q x (by omega)] at HOs
          unfold Com.vals at HXs
          clear hw8 hT
          have hc2 := fun o => HB2.out.cell o
          go_upto_region 10 with (refine wpList_store_mid rfl 78 (.tmp 33) (.tmp 32) rfl g (q * 8) (#[.int .i64 x.id, .int .i64 x.ev, .int .i64 x.fr, .int .i64 x.til, .string x.author, .string x.text, .bool x.done, .bool x.lost]) (by exact rfl) (by exact rfl) (by exact HTh.out) (by exact size_comI) (by simp [Value.oneCell']) ?_; generalize hW8 : World.setCells _ _ _ _ = W8; have HW8 := Lib.hid hW8; clear hW8)
          have HOs' : Hid (W8.ownsRow L 78 8 (.slice (some ⟨g, 0, none⟩) n c) n ((C.set q x).flatMap Com.vals)) := by show World.ownsRow _ _ _ _ _ _ _; rw [← HW8.out]; exact HOs.out
          have HXs' : Hid (Ext w0 W8) := by show Ext _ _; rw [← HW8.out]; exact HXs.out
          clear hc2 HW8 HXs HOs HTh HB2 HO2 HBx HXa HOa
          go_wp2_with fail
          exact ⟨⟨q + 1, k + 1, C.set q x, by go_num, by go_num, HK.out, HXs'.out, HOs'.out⟩, by simp [intOf]; omega⟩
      · obtain rfl : k = n := by omega
        have hpre : C.take q = openL l := by
          have h9 := hS.pre
          rw [List.take_of_length_le (l := l) (by omega)] at h9
          exact h9
        have hq : q = (openL l).length := by rw [← hpre, List.length_take]; omega
        have HP := Lib.hid hpre
        have HX := Lib.hid hx
        obtain ⟨ho1, ho2⟩ := hO
        rcases ho2 with ⟨hv, hn0⟩ | ⟨g', cap, cur, hv, hg, hb, hnc, hcm, hcs, ht⟩
        · cases hv
        cases hv
        have hB : Blk wr g 78 cur := hb
        have hqc : q ≤ c := by omega
        have HB := Lib.hid hB
        have HT := Lib.hid ht
        have hge : ¬ (k : Int) < (k : Int) := by omega
        have HQ := Lib.hid hq
        by_cases hcq : c = q
        · obtain rfl : q = k := by omega
          obtain rfl : c = q := hcq
          have hrun : (Builtin.clear_ #[25] 0 #[.slice (some ⟨g, 0, none⟩) 0 0]).run Tryz.prog wr = .ok (.tuple #[]) wr := clear_zero Tryz.underlying25 zero_com
          clear hpre hx hB hb hS hq
          go_wp2_with fail
          go_ret
          refine ⟨by rw [← HQ.out]; rfl, HX.out, ?_, .inr ⟨g, c, cur, by rw [← HQ.out], hg, HB.out, by rw [← HQ.out]; omega, hcm, hcs, ?_⟩⟩
          · rw [flatMap_len Com.vals 8 (fun _ => rfl)]
          · rw [← HQ.out, ← HP.out, HT.out, List.take_of_length_le (by omega)]
        · obtain ⟨cur', hz1, hz2, hrun⟩ := run_clear_blk (P := Tryz.prog) (w := wr) (t := 25) (e := 78) (ty := 0) (c := c - q) (n := k - q) (o := q * 8) (g := g) (cur := cur) Tryz.underlying25 zero_com (by simp [Value.cells, Value.oneCell']) hB (by show _ + _ * 8 ≤ _; omega)
          have HZ1 := Lib.hid hz1
          have HZ2 := Lib.hid hz2
          clear hz1 hz2 hpre hx hB hb ht hS hq
          go_wp2_with fail
          go_ret
          refine ⟨by rw [← HQ.out]; rfl, HX.out.put (by omega) _ _, ?_, .inr ⟨g, c, cur', by rw [← HQ.out], hg, HB.out.put cur', by rw [← HQ.out]; omega, hcm, by rw [HZ1.out]; exact hcs, ?_⟩⟩
          · rw [flatMap_len Com.vals 8 (fun _ => rfl)]
          · rw [← HQ.out, HZ2.out, ← HP.out, ← flatMap_take (f := Com.vals) (s := 8) (fun _ => rfl) C, ← HT.out, List.take_take, Nat.min_eq_left (by omega)]
end Go.Proofs.YtagfedbdakmlgaaGreatDoor

/-! OpnC -/
namespace Go.Proofs.YtagfedbdakmlgaaGreatDoor
set_option linter.unusedVariables false
set_option linter.unusedSimpArgs false
open Go.RowKit
theorem isNaNi_any (a : Int) (w : World) : Calls Tryz.prog 162 #[.int .i64 a] w fun e w' => e = .returned (.bool false) ∧ w = w' := by
  go_enter Tryz.func162, Tryz.ntmps162
  go_wp2
  go_ret
  exact ⟨rfl, rfl⟩
set_option maxHeartbeats 400000 in
theorem Comparei_any (a b : Int) (w : World) : Calls Tryz.prog 119 #[.int .i64 a, .int .i64 b] w fun e w' => e = .returned (.int .i64 (cmpI a b)) ∧ w = w' := by
  go_enter Tryz.func119, Tryz.ntmps119
  go_wp2_with (first | (go_at_call 162; refine (isNaNi_any _ _).mono ?_; rintro e w' ⟨rfl, rfl⟩))
  all_goals go_ret
  · exact ⟨ret_int (by unfold cmpI; simp; omega), rfl⟩
  · exact ⟨ret_int (by unfold cmpI; rw [if_neg (by omega), if_pos (by omega)]), rfl⟩
  · exact ⟨ret_int (by unfold cmpI; rw [if_neg (by omega), if_neg (by omega)]), rfl⟩
def or3 (a b c : Int) : Int := if a ≠ 0 then a else if b ≠ 0 then b else c
set_option maxHeartbeats 800000 in
theorem Or3_any (a b d : Int) (g c : Nat) (w : World) (h0 : w.cell? ⟨g, 0, none⟩ = some (.int .i64 a)) (h1 : w.cell? ⟨g, 1, none⟩ = some (.int .i64 b)) (h2 : w.cell? ⟨g, 2, none⟩ = some (.int .i64 d)) :
   Calls Tryz.prog 108 #[.slice (some ⟨g, 0, none⟩) 3 c] w fun e w' => e = .returned (.int .i64 (or3 a b d)) ∧ w = w' := by
  go_enter Tryz.func108, Tryz.ntmps108
  go_wp2
  refine wp_loop_rounds 4 ?_; rw [rounds_succ]
  by_cases ha : (a != 0) = true
  · go_wp2
    go_ret
    exact ⟨ret_int (by unfold or3; simp at ha; simp [ha]), rfl⟩
  · have ha' : (a != 0) = false := by simpa using ha
    go_wp2
    rw [rounds_succ]
    by_cases hb : (b != 0) = true
    · go_wp2
      go_ret
      exact ⟨ret_int (by unfold or3; simp at ha' hb; simp [ha', hb]), rfl⟩
    · have hb' : (b != 0) = false := by simpa using hb
      go_wp2
      rw [rounds_succ]
      by_cases hd : (d != 0) = true
      · go_wp2
        go_ret
        exact ⟨ret_int (by unfold or3; simp at ha' hb'; simp [ha', hb']), rfl⟩
      · have hd' : (d != 0) = false := by simpa using hd
        go_wp2
        rw [rounds_succ]
        go_wp2
        go_ret
        exact ⟨ret_int (by unfold or3; simp at ha' hb' hd'; simp [ha', hb', hd']), rfl⟩
def cmpC (evs : List Ev) (x y : Com) : Int := or3 (cmpI (findI evs x.ev) (findI evs y.ev)) (cmpI x.fr y.fr) (cmpI x.id y.id)
structure QD (ps : List (Value → World → Prop)) (W : World) (us : List Value) (w' : World) : Prop where
  ext : Extd W w'
  val : ∀ (i : Nat) (u : Value) (p : Value → World → Prop), us[i]? = some u → ps[i]? = some p → p u w'
theorem QD.start (ps : List (Value → World → Prop)) (W : World) : QD ps W [] W.drew := ⟨(Extd.refl W).drew, fun i u p h => by simp at h⟩
theorem QD.push {ps : List (Value → World → Prop)} {W w' w2 : World} {us : List Value} {v : Value} (h : QD ps W us w') (hst : QSt ps) (hx : Extd w' w2) (hv : ∀ p : Value → World → Prop, ps[us.length]? = some p → p v w2) : QD ps W (us ++ [v]) w2 :=
  ⟨h.ext.trans hx, fun i u p hu hp => by
    by_cases hi : i < us.length
    · rw [List.getElem?_append_left hi] at hu
      exact hst p (List.mem_of_getElem? hp) u w' w2 hx.ext (h.val i u p hu hp)
    · rw [List.getElem?_append_right (by omega)] at hu
      have hl := (List.getElem?_eq_some_iff.1 hu).1
      simp at hl
      have hi' : i = us.length := by omega
      subst hi'
      simp at hu
      subst hu
      exact hv p hp⟩
theorem wp_call2R {P : Program} {o : Oper} {a : Act} {w : World} {K : Act → World → Prop} {Q : Exit → Act → World → Prop} {f : FuncId} {x0 x1 : Operand} {ts : Array TypeId} {v0 v1 : Value} {R : Ending → World → Prop} (ho : o.op = .call { callee := .value (.func f), args := #[x0, x1], argTypes := ts })
    (h0 : a.eval x0 = v0) (h1 : a.eval x1 = v1) (hcall : ∀ args w, (callFunc f args).run P w = .ok (.enter f args) w) (hc : Calls P f #[v0, v1] w R)
    (h : ∀ e w', R e w' → ∃ v, e = .returned v ∧ K (a.put o.dst v) w') : o.wp P a w K Q := by
  have h2 : Calls P f #[v0, v1] w (fun
      | .returned u, w'' => K (a.put o.dst u) w''
      | .panicked chain, w'' => Q (.panic chain) a w''
      | .outgrown, _ => LetsOut Q) := hc.mono fun en w' hr => by
    obtain ⟨u, rfl, hk⟩ := h en w' hr
    exact hk
  unfold Oper.wp execOp
  simp only [ho]
  have hev : a.eval (.func f) = .func (.func f) #[] #[] := rfl
  simp [resolve, invoke, hev, h0, h1, hcall, Sem.run_bind, Deferred.ofValue]
  exact h2
set_option maxRecDepth 100000 in
set_option maxHeartbeats 4000000 in
theorem OpenC_any (d : Doc) (h : DocH) (x y : Com) (gd : Nat) (w : World) (hat : EvsAt w h.ea h.en d.evs) (hn : h.en ≤ 4611686018427387904) (hBd : Blk w gd 27 (d.cells h)) :
    Calls Tryz.prog 118 #[.agg x.vals.toArray, .agg y.vals.toArray, .pointer (some ⟨gd, 0, none⟩)] w fun e w' => e = .returned (.int .i64 (cmpC d.evs x y)) ∧ Extd w w' := by
  obtain ⟨W2, hW2⟩ : ∃ W2, W2 = (w.alloc (.cells #[.int .i64 x.id, .int .i64 x.ev, .int .i64 x.fr, .int .i64 x.til, .string x.author, .string x.text, .bool x.done, .bool x.lost] 78)).alloc (.cells #[.int .i64 y.id, .int .i64 y.ev, .int .i64 y.fr, .int .i64 y.til, .string y.author, .string y.text, .bool y.done, .bool y.lost] 78) := ⟨_, rfl⟩
  have HX : Hid (Extd w W2) := by show Extd _ _; rw [hW2]; exact ((Extd.refl w).alloc _).alloc _
  have HBx : Hid (Blk W2 w.heap.size 78 #[.int .i64 x.id, .int .i64 x.ev, .int .i64 x.fr, .int .i64 x.til, .string x.author, .string x.text, .bool x.done, .bool x.lost]) := by show Blk _ _ _ _; rw [hW2]; exact (Blk.new w _ _).alloc _
  have HBy : Hid (Blk W2 (w.heap.size + 1) 78 #[.int .i64 y.id, .int .i64 y.ev, .int .i64 y.fr, .int .i64 y.til, .string y.author, .string y.text, .bool y.done, .bool y.lost]) := by show Blk _ _ _ _; rw [hW2]; exact Blk.new' (by simp)
  have HBd := Lib.hid (hBd.ext HX.out.ext)
  have HFx := Lib.hid (fun w' (hx : Extd W2 w') => DFind_x d h x.ev w' (hat.ext (HX.out.trans hx).ext) hn)
  have HFy := Lib.hid (fun w' (hx : Extd W2 w') => DFind_x d h y.ev w' (hat.ext (HX.out.trans hx).ext) hn)
  have hgl := hBd.lt
  clear hat hBd
  obtain ⟨hra, nr, hrc, hea, hen, hec, hca, nc, hcc⟩ := h
  unfold Doc.cells at *
  dsimp only at *
  unfold Com.vals
  have hST : QSt [(fun (u : Value) (_ : World) => u = .int .i64 (findI d.evs x.ev)), (fun (u : Value) (_ : World) => u = .int .i64 (findI d.evs y.ev)), (fun (u : Value) (_ : World) => u = .int .i64 (cmpI (findI d.evs x.ev) (findI d.evs y.ev))), (fun (u : Value) (_ : World) => u = .int .i64 (cmpI x.fr y.fr)), (fun (u : Value) (_ : World) => u = .int .i64 (cmpI x.id y.id)), (fun (u : Value) (w8 : World) => ∃ g, u = .slice (some ⟨g, 0, none⟩) 3 3 ∧ Blk w8 g 3 #[.int .i64 (cmpI (findI d.evs x.ev) (findI d.evs y.ev)), .int .i64 (cmpI x.fr y.fr), .int .i64 (cmpI x.id y.id)]), (fun (u : Value) (_ : World) => u = .int .i64 (cmpC d.evs x y)), (fun (u : Value) (_ : World) => u = .int .i64 (cmpC d.evs x y))] := by
    intro p hp u w w' hx h
    simp only [List.mem_cons, List.not_mem_nil, or_false] at hp
    rcases hp with rfl | rfl | rfl | rfl | rfl | rfl | rfl | rfl
    · exact h
    · exact h
    · exact h
    · exact h
    · exact h
    · obtain ⟨g, h1, h2⟩ := h; exact ⟨g, h1, h2.ext hx⟩
    · exact h
    · exact h
  go_enter Tryz.func118, Tryz.ntmps118
  go_upto_region 1 with fail
  rw [← hW2]
  clear hW2
  refine wp_region_links [some 6, some 7, some 8, some 9, some 10, some 11, some 12, some 13, some 14, some 15, some 16, some 17, some 18, some 19, some 20, some 21, some 22, some 23, some 24, some 25, some 26, some 5] [[], [], [1], [0, 2], [], [], [5], [4, 6, 3], [3, 7, 7], [], [9], [], [11], [10, 12, 8], [], [14], [], [16], [15, 17, 13], [8, 13, 18], [19, 18], [20, 20, 0, 1, 2, 3, 4, 5, 6, 7, 8, 9, 10, 11, 12, 13, 14, 15, 16, 17, 18, 19, 20]] [3, 7, 8, 13, 18, 19, 20, 21] [.agg #[.string d.title, .string d.lang, .int .u8 d.rate, .bool d.drop, .int .i64 d.last, .slice hra nr hrc, .slice hea hen hec, .slice hca nc hcc], .pointer (some ⟨w.heap.size, 1, none⟩), .int .i64 x.ev, undef, .agg #[.string d.title, .string d.lang, .int .u8 d.rate, .bool d.drop, .int .i64 d.last, .slice hra nr hrc, .slice hea hen hec, .slice hca nc hcc], .pointer (some ⟨w.heap.size + 1, 1, none⟩), .int .i64 y.ev, undef, undef, .pointer (some ⟨w.heap.size, 2, none⟩), .int .i64 x.fr, .pointer (some ⟨w.heap.size + 1, 2, none⟩), .int .i64 y.fr, undef, .pointer (some ⟨w.heap.size, 0, none⟩), .int .i64 x.id, .pointer (some ⟨w.heap.size + 1, 0, none⟩), .int .i64 y.id, undef, undef, undef, undef] (QD [(fun (u : Value) (_ : World) => u = .int .i64 (findI d.evs x.ev)), (fun (u : Value) (_ : World) => u = .int .i64 (findI d.evs y.ev)), (fun (u : Value) (_ : World) => u = .int .i64 (cmpI (findI d.evs x.ev) (findI d.evs y.ev))), (fun (u : Value) (_ : World) => u = .int .i64 (cmpI x.fr y.fr)), (fun (u : Value) (_ : World) => u = .int .i64 (cmpI x.id y.id)), (fun (u : Value) (w8 : World) => ∃ g, u = .slice (some ⟨g, 0, none⟩) 3 3 ∧ Blk w8 g 3 #[.int .i64 (cmpI (findI d.evs x.ev) (findI d.evs y.ev)), .int .i64 (cmpI x.fr y.fr), .int .i64 (cmpI x.id y.id)]), (fun (u : Value) (_ : World) => u = .int .i64 (cmpC d.evs x y)), (fun (u : Value) (_ : World) => u = .int .i64 (cmpC d.evs x y))] W2) (by kernel_rfl) (by kernel_rfl) (by kernel_rfl) (by kernel_rfl) (by kernel_rfl) (by kernel_rfl) (by kernel_rfl) (by decide) ?_ ?_ ?_ ?_
  · exact QD.start _ W2
  · intro i o ho hc a w' us K' hJ hF hlim hk
    match i, ho with
    | 0, ho =>
      simp only [List.getElem?_toArray, List.getElem?_cons_zero, List.getElem?_cons_succ, Option.some.injEq] at ho
      subst ho
      have e2 := hF.old 2 (.pointer (some ⟨gd, 0, none⟩)) rfl rfl
      exact wp_loadBk 27 (.tmp 2) rfl _ 27 _ _ e2 (HBd.out.ext hJ.ext.ext) Tryz.underlying27 rfl (by exact size_docI) hk
    | 1, ho =>
      simp only [List.getElem?_toArray, List.getElem?_cons_zero, List.getElem?_cons_succ, Option.some.injEq] at ho
      subst ho
      have e3 := hF.old 3 (.pointer (some ⟨w.heap.size, 0, none⟩)) rfl rfl
      simp only [Act.eval] at e3
      clear hF hlim hJ
      go_simp
      exact hk
    | 2, ho =>
      simp only [List.getElem?_toArray, List.getElem?_cons_zero, List.getElem?_cons_succ, Option.some.injEq] at ho
      subst ho
      have e7 := hF.pure 1 7 (.pointer (some ⟨w.heap.size, 1, none⟩)) rfl rfl rfl rfl
      have hcl : w'.cell? ⟨w.heap.size, 1, none⟩ = some (.int .i64 x.ev) := (HBx.out.ext hJ.ext.ext).cell 1
      simp only [Act.eval] at e7
      clear hF hlim hJ
      go_simp
      exact hk
    | 3, ho => simp at hc
    | 4, ho =>
      simp only [List.getElem?_toArray, List.getElem?_cons_zero, List.getElem?_cons_succ, Option.some.injEq] at ho
      subst ho
      have e2 := hF.old 2 (.pointer (some ⟨gd, 0, none⟩)) rfl rfl
      exact wp_loadBk 27 (.tmp 2) rfl _ 27 _ _ e2 (HBd.out.ext hJ.ext.ext) Tryz.underlying27 rfl (by exact size_docI) hk
    | 5, ho =>
      simp only [List.getElem?_toArray, List.getElem?_cons_zero, List.getElem?_cons_succ, Option.some.injEq] at ho
      subst ho
      have e4 := hF.old 4 (.pointer (some ⟨w.heap.size + 1, 0, none⟩)) rfl rfl
      simp only [Act.eval] at e4
      clear hF hlim hJ
      go_simp
      exact hk
    | 6, ho =>
      simp only [List.getElem?_toArray, List.getElem?_cons_zero, List.getElem?_cons_succ, Option.some.injEq] at ho
      subst ho
      have e11 := hF.pure 5 11 (.pointer (some ⟨w.heap.size + 1, 1, none⟩)) rfl rfl rfl rfl
      have hcl : w'.cell? ⟨w.heap.size + 1, 1, none⟩ = some (.int .i64 y.ev) := (HBy.out.ext hJ.ext.ext).cell 1
      simp only [Act.eval] at e11
      clear hF hlim hJ
      go_simp
      exact hk
    | 7, ho => simp at hc
    | 8, ho => simp at hc
    | 9, ho =>
      simp only [List.getElem?_toArray, List.getElem?_cons_zero, List.getElem?_cons_succ, Option.some.injEq] at ho
      subst ho
      have e3 := hF.old 3 (.pointer (some ⟨w.heap.size, 0, none⟩)) rfl rfl
      simp only [Act.eval] at e3
      clear hF hlim hJ
      go_simp
      exact hk
    | 10, ho =>
      simp only [List.getElem?_toArray, List.getElem?_cons_zero, List.getElem?_cons_succ, Option.some.injEq] at ho
      subst ho
      have e15 := hF.pure 9 15 (.pointer (some ⟨w.heap.size, 2, none⟩)) rfl rfl rfl rfl
      have hcl : w'.cell? ⟨w.heap.size, 2, none⟩ = some (.int .i64 x.fr) := (HBx.out.ext hJ.ext.ext).cell 2
      simp only [Act.eval] at e15
      clear hF hlim hJ
      go_simp
      exact hk
    | 11, ho =>
      simp only [List.getElem?_toArray, List.getElem?_cons_zero, List.getElem?_cons_succ, Option.some.injEq] at ho
      subst ho
      have e4 := hF.old 4 (.pointer (some ⟨w.heap.size + 1, 0, none⟩)) rfl rfl
      simp only [Act.eval] at e4
      clear hF hlim hJ
      go_simp
      exact hk
    | 12, ho =>
      simp only [List.getElem?_toArray, List.getElem?_cons_zero, List.getElem?_cons_succ, Option.some.injEq] at ho
      subst ho
      have e17 := hF.pure 11 17 (.pointer (some ⟨w.heap.size + 1, 2, none⟩)) rfl rfl rfl rfl
      have hcl : w'.cell? ⟨w.heap.size + 1, 2, none⟩ = some (.int .i64 y.fr) := (HBy.out.ext hJ.ext.ext).cell 2
      simp only [Act.eval] at e17
      clear hF hlim hJ
      go_simp
      exact hk
    | 13, ho => simp at hc
    | 14, ho =>
      simp only [List.getElem?_toArray, List.getElem?_cons_zero, List.getElem?_cons_succ, Option.some.injEq] at ho
      subst ho
      have e3 := hF.old 3 (.pointer (some ⟨w.heap.size, 0, none⟩)) rfl rfl
      simp only [Act.eval] at e3
      clear hF hlim hJ
      go_simp
      exact hk
    | 15, ho =>
      simp only [List.getElem?_toArray, List.getElem?_cons_zero, List.getElem?_cons_succ, Option.some.injEq] at ho
      subst ho
      have e20 := hF.pure 14 20 (.pointer (some ⟨w.heap.size, 0, none⟩)) rfl rfl rfl rfl
      have hcl : w'.cell? ⟨w.heap.size, 0, none⟩ = some (.int .i64 x.id) := (HBx.out.ext hJ.ext.ext).cell 0
      simp only [Act.eval] at e20
      clear hF hlim hJ
      go_simp
      exact hk
    | 16, ho =>
      simp only [List.getElem?_toArray, List.getElem?_cons_zero, List.getElem?_cons_succ, Option.some.injEq] at ho
      subst ho
      have e4 := hF.old 4 (.pointer (some ⟨w.heap.size + 1, 0, none⟩)) rfl rfl
      simp only [Act.eval] at e4
      clear hF hlim hJ
      go_simp
      exact hk
    | 17, ho =>
      simp only [List.getElem?_toArray, List.getElem?_cons_zero, List.getElem?_cons_succ, Option.some.injEq] at ho
      subst ho
      have e22 := hF.pure 16 22 (.pointer (some ⟨w.heap.size + 1, 0, none⟩)) rfl rfl rfl rfl
      have hcl : w'.cell? ⟨w.heap.size + 1, 0, none⟩ = some (.int .i64 y.id) := (HBy.out.ext hJ.ext.ext).cell 0
      simp only [Act.eval] at e22
      clear hF hlim hJ
      go_simp
      exact hk
    | 18, ho => simp at hc
    | 19, ho => simp at hc
    | 20, ho => simp at hc
    | 21, ho => simp at hc
    | i + 22, ho => simp at ho
  · intro p c' o hp ho a w' us K' hl hJ hF hk
    match p, hp with
    | 0, hp =>
      obtain rfl : 3 = c' := by simpa using hp
      simp only [List.getElem?_toArray, List.getElem?_cons_zero, List.getElem?_cons_succ, Option.some.injEq] at ho
      subst ho
      obtain rfl : us = [] := List.eq_nil_of_length_eq_zero hl
      have e6 := hF.pure 0 6 (.agg #[.string d.title, .string d.lang, .int .u8 d.rate, .bool d.drop, .int .i64 d.last, .slice hra nr hrc, .slice hea hen hec, .slice hca nc hcc]) rfl rfl rfl rfl
      have e8 := hF.pure 2 8 (.int .i64 x.ev) rfl rfl rfl rfl
      refine wp_call2R rfl e6 e8 Tryz.call38 (HFx.out w' hJ.ext) ?_
      rintro en w2 ⟨rfl, hx9⟩
      exact ⟨_, rfl, hk _ w2 (hJ.push hST hx9 (fun p hp => by cases hp; rfl))⟩
    | 1, hp =>
      obtain rfl : 7 = c' := by simpa using hp
      simp only [List.getElem?_toArray, List.getElem?_cons_zero, List.getElem?_cons_succ, Option.some.injEq] at ho
      subst ho
      obtain ⟨u0, rfl⟩ := list_1 hl
      have e10 := hF.pure 4 10 (.agg #[.string d.title, .string d.lang, .int .u8 d.rate, .bool d.drop, .int .i64 d.last, .slice hra nr hrc, .slice hea hen hec, .slice hca nc hcc]) rfl rfl rfl rfl
      have e12 := hF.pure 6 12 (.int .i64 y.ev) rfl rfl rfl rfl
      refine wp_call2R rfl e10 e12 Tryz.call38 (HFy.out w' hJ.ext) ?_
      rintro en w2 ⟨rfl, hx9⟩
      exact ⟨_, rfl, hk _ w2 (hJ.push hST hx9 (fun p hp => by cases hp; rfl))⟩
    | 2, hp =>
      obtain rfl : 8 = c' := by simpa using hp
      simp only [List.getElem?_toArray, List.getElem?_cons_zero, List.getElem?_cons_succ, Option.some.injEq] at ho
      subst ho
      obtain ⟨u0, u1, rfl⟩ := list_2 hl
      have e9 := hF.link 0 3 9 _ rfl rfl rfl rfl
      have e13 := hF.link 1 7 13 _ rfl rfl rfl rfl
      have hu0 : u0 = .int .i64 (findI d.evs x.ev) := hJ.val 0 u0 _ rfl rfl
      rw [hu0] at e9
      have hu1 : u1 = .int .i64 (findI d.evs y.ev) := hJ.val 1 u1 _ rfl rfl
      rw [hu1] at e13
      refine wp_call2R rfl e9 e13 Tryz.call119 (Comparei_any _ _ w') ?_
      rintro en w2 ⟨rfl, rfl⟩
      exact ⟨_, rfl, hk _ w' (hJ.push hST (Extd.refl _) (fun p hp => by cases hp; rfl))⟩
    | 3, hp =>
      obtain rfl : 13 = c' := by simpa using hp
      simp only [List.getElem?_toArray, List.getElem?_cons_zero, List.getElem?_cons_succ, Option.some.injEq] at ho
      subst ho
      obtain ⟨u0, u1, u2, rfl⟩ := list_3 hl
      have e16 := hF.pure 10 16 (.int .i64 x.fr) rfl rfl rfl rfl
      have e18 := hF.pure 12 18 (.int .i64 y.fr) rfl rfl rfl rfl
      refine wp_call2R rfl e16 e18 Tryz.call119 (Comparei_any _ _ w') ?_
      rintro en w2 ⟨rfl, rfl⟩
      exact ⟨_, rfl, hk _ w' (hJ.push hST (Extd.refl _) (fun p hp => by cases hp; rfl))⟩
    | 4, hp =>
      obtain rfl : 18 = c' := by simpa using hp
      simp only [List.getElem?_toArray, List.getElem?_cons_zero, List.getElem?_cons_succ, Option.some.injEq] at ho
      subst ho
      obtain ⟨u0, u1, u2, u3, rfl⟩ := list_4 hl
      have e21 := hF.pure 15 21 (.int .i64 x.id) rfl rfl rfl rfl
      have e23 := hF.pure 17 23 (.int .i64 y.id) rfl rfl rfl rfl
      refine wp_call2R rfl e21 e23 Tryz.call109 (Compare_any _ _ w') ?_
      rintro en w2 ⟨rfl, rfl⟩
      exact ⟨_, rfl, hk _ w' (hJ.push hST (Extd.refl _) (fun p hp => by cases hp; rfl))⟩
    | 5, hp =>
      obtain rfl : 19 = c' := by simpa using hp
      simp only [List.getElem?_toArray, List.getElem?_cons_zero, List.getElem?_cons_succ, Option.some.injEq] at ho
      subst ho
      obtain ⟨u0, u1, u2, u3, u4, rfl⟩ := list_5 hl
      have e14 := hF.link 2 8 14 _ rfl rfl rfl rfl
      have e19 := hF.link 3 13 19 _ rfl rfl rfl rfl
      have e24 := hF.link 4 18 24 _ rfl rfl rfl rfl
      have hu2 : u2 = .int .i64 (cmpI (findI d.evs x.ev) (findI d.evs y.ev)) := hJ.val 2 u2 _ rfl rfl
      have hu3 : u3 = .int .i64 (cmpI x.fr y.fr) := hJ.val 3 u3 _ rfl rfl
      have hu4 : u4 = .int .i64 (cmpI x.id y.id) := hJ.val 4 u4 _ rfl rfl
      rw [hu2] at e14
      rw [hu3] at e19
      rw [hu4] at e24
      have HK := Lib.hid (hk (.slice (some ⟨w'.heap.size, 0, none⟩) 3 3) (w'.alloc (.cells #[.int .i64 (cmpI (findI d.evs x.ev) (findI d.evs y.ev)), .int .i64 (cmpI x.fr y.fr), .int .i64 (cmpI x.id y.id)] 3)) (hJ.push hST ((Extd.refl w').alloc _) (fun p hp => by cases hp; exact ⟨w'.heap.size, rfl, Blk.new w' _ _⟩)))
      clear hk hF hJ hu2 hu3 hu4
      generalize (cmpI (findI d.evs x.ev) (findI d.evs y.ev)) = z1 at *
      generalize (cmpI x.fr y.fr) = z2 at *
      generalize (cmpI x.id y.id) = z3 at *
      simp [Act.eval] at e14 e19 e24
      go_simp
      exact HK.out
    | 6, hp =>
      obtain rfl : 20 = c' := by simpa using hp
      simp only [List.getElem?_toArray, List.getElem?_cons_zero, List.getElem?_cons_succ, Option.some.injEq] at ho
      subst ho
      obtain ⟨u0, u1, u2, u3, u4, u5, rfl⟩ := list_6 hl
      have e25 := hF.link 5 19 25 _ rfl rfl rfl rfl
      obtain ⟨g9, hu5, hb9⟩ : (fun (u : Value) (w8 : World) => ∃ g, u = .slice (some ⟨g, 0, none⟩) 3 3 ∧ Blk w8 g 3 #[.int .i64 (cmpI (findI d.evs x.ev) (findI d.evs y.ev)), .int .i64 (cmpI x.fr y.fr), .int .i64 (cmpI x.id y.id)]) u5 w' := hJ.val 5 u5 _ rfl rfl
      rw [hu5] at e25
      refine wp_call1 rfl e25 Tryz.call108 (Or3_any (cmpI (findI d.evs x.ev) (findI d.evs y.ev)) (cmpI x.fr y.fr) (cmpI x.id y.id) g9 3 w' (hb9.cell 0) (hb9.cell 1) (hb9.cell 2)) ?_
      rintro en w2 ⟨rfl, rfl⟩
      exact ⟨_, rfl, hk _ w' (hJ.push hST (Extd.refl _) (fun p hp => by cases hp; rfl))⟩
    | 7, hp =>
      obtain rfl : 21 = c' := by simpa using hp
      simp only [List.getElem?_toArray, List.getElem?_cons_zero, List.getElem?_cons_succ, Option.some.injEq] at ho
      subst ho
      obtain ⟨u0, u1, u2, u3, u4, u5, u6, rfl⟩ := list_7 hl
      have e26 := hF.link 6 20 26 _ rfl rfl rfl rfl
      have hu6 : u6 = .int .i64 (cmpC d.evs x y) := hJ.val 6 u6 _ rfl rfl
      rw [hu6] at e26
      have HK := Lib.hid (hk (.int .i64 (cmpC d.evs x y)) w' (hJ.push hST (Extd.refl _) (fun p hp => by cases hp; rfl)))
      clear hk hF hJ hu6
      simp only [Act.eval] at e26
      go_simp
      exact HK.out
    | p + 8, hp => simp at hp
  intro us w9 hl hJ
  obtain ⟨u0, u1, u2, u3, u4, u5, u6, u7, rfl⟩ := list_8 hl
  first | (rename_i hK; refine hK _ _ ?_; clear hK) | (rename_i hK hK_1; refine hK _ _ ?_; clear hK) | (rename_i hK hK_1 hK_2; refine hK _ _ ?_; clear hK) | (rename_i hK hK_1 hK_2 hK_3; refine hK _ _ ?_; clear hK)
  generalize hL : frameL _ _ _ _ = L
  obtain rfl : L = [(6, .agg #[.string d.title, .string d.lang, .int .u8 d.rate, .bool d.drop, .int .i64 d.last, .slice hra nr hrc, .slice hea hen hec, .slice hca nc hcc]), (7, .pointer (some ⟨w.heap.size, 1, none⟩)), (8, .int .i64 x.ev), (9, u0), (10, .agg #[.string d.title, .string d.lang, .int .u8 d.rate, .bool d.drop, .int .i64 d.last, .slice hra nr hrc, .slice hea hen hec, .slice hca nc hcc]), (11, .pointer (some ⟨w.heap.size + 1, 1, none⟩)), (12, .int .i64 y.ev), (13, u1), (14, u2), (15, .pointer (some ⟨w.heap.size, 2, none⟩)), (16, .int .i64 x.fr), (17, .pointer (some ⟨w.heap.size + 1, 2, none⟩)), (18, .int .i64 y.fr), (19, u3), (20, .pointer (some ⟨w.heap.size, 0, none⟩)), (21, .int .i64 x.id), (22, .pointer (some ⟨w.heap.size + 1, 0, none⟩)), (23, .int .i64 y.id), (24, u4), (25, u5), (26, u6), (5, u7)] := hL.symm.trans (by kernel_rfl)
  clear hL hl
  simp only [Act.put, List.foldl_cons, List.foldl_nil, List.setIfInBounds_toArray, List.set_cons_zero, List.set_cons_succ]
  have hu7 : u7 = .int .i64 (cmpC d.evs x y) := hJ.val 7 u7 _ rfl rfl
  subst hu7
  have HX9 := Lib.hid (HX.out.trans hJ.ext)
  clear hJ
  go_wp2_with fail
  go_ret
  exact ⟨rfl, HX9.out⟩
end Go.Proofs.YtagfedbdakmlgaaGreatDoor

/-! FolLP -/
namespace Go.Proofs.YtagfedbdakmlgaaGreatDoor
set_option linter.unusedVariables false
set_option linter.unusedSimpArgs false
open Go.RowKit
section
variable {n m p s : Nat} {F T i : Int}
/-- a character that stays -/
def kept (n p s : Nat) (i : Int) : Prop := i < p ∨ (n : Int) - s ≤ i
def atOf (n m p : Nat) (i : Int) : Int := if (p : Int) ≤ i then i + m - n else i
theorem wfrom_eq (h1 : n ≤ 35184372088831) (h2 : m ≤ 35184372088831) (hF : 0 ≤ F) (hF2 : F ≤ n) : wfrom n m p s F = if (n : Int) - s ≤ F then F + (m - n) else if F < p then F else (m : Int) - s := by
  unfold wfrom
  rw [IntKind.wrap_i64]
  split
  · omega
  · rfl
theorem wto_eq (h1 : n ≤ 35184372088831) (h2 : m ≤ 35184372088831) (hF : 0 ≤ T) (hF2 : T ≤ n) : wto n m p s T = if T ≤ p then T else if (n : Int) - s < T then T + (m - n) else p := by
  unfold wto
  rw [IntKind.wrap_i64]
  split
  · rfl
  · split
    · omega
    · rfl
theorem kept_bd (h1 : n ≤ 35184372088831) (h2 : m ≤ 35184372088831) (e1 : p + s ≤ n) (e2 : p + s ≤ m) (hF : 0 ≤ F) (hFT : F < T) (hT : T ≤ n) : 0 ≤ wfrom n m p s F ∧ wto n m p s T ≤ m := by
  rw [wfrom_eq h1 h2 hF (by omega), wto_eq h1 h2 (by omega) hT]
  repeat' split
  all_goals omega
end
end Go.Proofs.YtagfedbdakmlgaaGreatDoor
