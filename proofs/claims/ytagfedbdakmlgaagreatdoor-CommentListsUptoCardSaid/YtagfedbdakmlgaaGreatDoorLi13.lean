/- Laid together: DERIVED: THE SHELF's CONTRACTS AT THIS DUMP, IN PLAIN WORDS (tools/lay-plain.mjs out of 'TryzSrt.lean', which tools/lay-shelf.mjs wrote): THE SAME DECLARATIONS UNDER THE SAME NAMES: 'import', 'namespace', 'open', 'def', 'theorem' AND NOTHING ELSE: no command of the shelf's: FOR A HAND-IN. Each laying: the table of numbers ('.._ren') and one theorem, a field a fact of the dump's own or the kernel's comparison; each contract: ONE APPLICATION. More memory and no fewer draws: what the sort asks of its comparison; a drawn region with calls in that class. The walks of document.Find, with what is drawn. A comment closed, a comment removed: plainly; own rows of comments under a store, cut, mended. Rows of one's own under an append with room and a clear. The walk of slices.Delete of comments: one element. Stable sorting, plainly. The stable sort of events: what its walks take of the program; rows as arrays and as lists. The stable sort of events: the insertion. The stable sort of events: ranges exchanged, blocks turned. The stable sort of events: the merge where one side is one. The stable sort of events: the symmetric merge. The stable sort of events: the merge at whatever length, the blocks, SortStableFunc. A row of one's own under the sort: what the sort asks of it, and what lies there behind it. The walk of document.Sort. A document without an event, plainly; own rows under the stores. A document in another rate is accepted; its drifts are small: plainly. A region that draws its order, by an invariant: each operation is met once, whatever came ahead of it. -/
import Derived.Shelf.SlSortCmp.KitK
import Derived.Ground.SlsfProg
import Derived.Ground.SlgcProg
import Derived.Test.YtagfedbdakmlgaaGreatDoorProg
import Derived.Test.YtagfedbdakmlgaaGreatDoorLi10
import Derived.Sort.Grow
import Derived.Test.YtagfedbdakmlgaaGreatDoorLi09
import Derived.Test.YtagfedbdakmlgaaGreatDoorLi11
import Derived.Laws.OwnMore
import Derived.Test.YtagfedbdakmlgaaGreatDoorRows
import Derived.Sort.WalkB2
import Derived.Sort.WalkB12
import Derived.Deep.LoopGhost
import Derived.Test.YtagfedbdakmlgaaGreatDoorLi04
import Derived.Test.YtagfedbdakmlgaaGreatDoorLi05

/-! LaySrt -/
namespace Go.Proofs
open Go.Shelf
def Tryz.srtCom_ren : Go.Shelf.Ren := ⟨fun | 6 => 117 | 15 => 161 | 14 => 160 | 28 => 200 | 29 => 201 | 20 => 192 | 21 => 193 | 22 => 194 | 23 => 195 | 24 => 196 | 25 => 197 | 26 => 198 | 27 => 199 | 46 => 213 | 47 => 214 | 48 => 215 | 49 => 216 | 50 => 217 | 57 => 227 | n => n, fun | 22 => 25 | 24 => 78 | 25 => 139 | 3 => 3 | 39 => 40 | 0 => 0 | 53 => 216 | 55 => 218 | 4 => 4 | 46 => 210 | 45 => 209 | 50 => 124 | 5 => 5 | 9 => 9 | 66 => 224 | 70 => 228 | 76 => 236 | 77 => 237 | n => n, fun | n => n⟩
theorem Tryz.srtCom : Go.Proofs.SlLaysF0.n6 Tryz.prog Tryz.srtCom_ren := {
  mixed := by kernel_rfl
  f6 := ⟨Tryz.f117.name, by decide, Tryz.func117.trans (congrArg some (by kernel_rfl))⟩
  f14 := ⟨Tryz.f160.name, by decide, Tryz.func160.trans (congrArg some (by kernel_rfl))⟩
  f15 := Tryz.func161.trans (congrArg some (by kernel_rfl))
  f20 := ⟨Tryz.f192.name, by decide, Tryz.func192.trans (congrArg some (by kernel_rfl))⟩
  f21 := ⟨Tryz.f193.name, by decide, Tryz.func193.trans (congrArg some (by kernel_rfl))⟩
  f22 := ⟨Tryz.f194.name, by decide, Tryz.func194.trans (congrArg some (by kernel_rfl))⟩
  f23 := ⟨Tryz.f195.name, by decide, Tryz.func195.trans (congrArg some (by kernel_rfl))⟩
  f24 := ⟨Tryz.f196.name, by decide, Tryz.func196.trans (congrArg some (by kernel_rfl))⟩
  f25 := ⟨Tryz.f197.name, by decide, Tryz.func197.trans (congrArg some (by kernel_rfl))⟩
  f26 := ⟨Tryz.f198.name, by decide, Tryz.func198.trans (congrArg some (by kernel_rfl))⟩
  f27 := ⟨Tryz.f199.name, by decide, Tryz.func199.trans (congrArg some (by kernel_rfl))⟩
  f28 := Tryz.func200.trans (congrArg some (by kernel_rfl))
  f29 := Tryz.func201.trans (congrArg some (by kernel_rfl))
  f46 := ⟨Tryz.f213.name, by decide, Tryz.func213.trans (congrArg some (by kernel_rfl))⟩
  f47 := Tryz.func214.trans (congrArg some (by kernel_rfl))
  f48 := Tryz.func215.trans (congrArg some (by kernel_rfl))
  f49 := ⟨Tryz.f216.name, by decide, Tryz.func216.trans (congrArg some (by kernel_rfl))⟩
  f50 := ⟨Tryz.f217.name, by decide, Tryz.func217.trans (congrArg some (by kernel_rfl))⟩
  f57 := ⟨Tryz.f227.name, by decide, Tryz.func227.trans (congrArg some (by kernel_rfl))⟩
  t0 := Tryz.underlying0
  a0 := Tryz.isAgg0
  z0 := Tryz.sizeOf0
  v0 := Tryz.zeroValue0
  t3 := Tryz.underlying3
  a3 := Tryz.isAgg3
  z3 := Tryz.sizeOf3
  v3 := Tryz.zeroValue3
  t4 := Tryz.underlying4
  a4 := Tryz.isAgg4
  z4 := Tryz.sizeOf4
  v4 := Tryz.zeroValue4
  t5 := Tryz.underlying5
  a5 := Tryz.isAgg5
  z5 := Tryz.sizeOf5
  v5 := Tryz.zeroValue5
  t9 := Tryz.underlying9
  a9 := Tryz.isAgg9
  z9 := Tryz.sizeOf9
  v9 := Tryz.zeroValue9
  t22 := Tryz.underlying25
  a22 := Tryz.isAgg25
  z22 := Tryz.sizeOf25
  v22 := Tryz.zeroValue25
  t25 := Tryz.underlying139
  a25 := Tryz.isAgg139
  z25 := Tryz.sizeOf139
  v25 := Tryz.zeroValue139
  t39 := Tryz.underlying40
  a39 := Tryz.isAgg40
  z39 := Tryz.sizeOf40
  v39 := Tryz.zeroValue40
  t45 := Tryz.underlying209
  a45 := Tryz.isAgg209
  z45 := Tryz.sizeOf209
  v45 := Tryz.zeroValue209
  t46 := Tryz.underlying210
  a46 := Tryz.isAgg210
  z46 := Tryz.sizeOf210
  v46 := Tryz.zeroValue210
  t50 := Tryz.underlying124
  a50 := Tryz.isAgg124
  z50 := Tryz.sizeOf124
  v50 := Tryz.zeroValue124
  t53 := Tryz.underlying216
  a53 := Tryz.isAgg216
  z53 := Tryz.sizeOf216
  v53 := Tryz.zeroValue216
  t55 := Tryz.underlying218
  a55 := Tryz.isAgg218
  z55 := Tryz.sizeOf218
  v55 := Tryz.zeroValue218
  t66 := Tryz.underlying224
  a66 := Tryz.isAgg224
  z66 := Tryz.sizeOf224
  v66 := Tryz.zeroValue224
  t70 := Tryz.underlying228
  a70 := Tryz.isAgg228
  z70 := Tryz.sizeOf228
  v70 := Tryz.zeroValue228
  t76 := Tryz.underlying236
  a76 := Tryz.isAgg236
  z76 := Tryz.sizeOf236
  v76 := Tryz.zeroValue236
  t77 := Tryz.underlying237
  a77 := Tryz.isAgg237
  z77 := Tryz.sizeOf237
  v77 := Tryz.zeroValue237 }
end Go.Proofs

/-! Extd -/
namespace Go.Proofs.YtagfedbdakmlgaaGreatDoor
set_option linter.unusedVariables false
set_option linter.unusedSimpArgs false
open Go.RowKit
structure Extd (w w' : World) : Prop where
  ext : Ext w w'
  dr : w.drawn ≤ w'.drawn
section
variable {w w1 w2 : World}
theorem Extd.refl (w : World) : Extd w w := ⟨Ext.refl w, Nat.le_refl _⟩
theorem Extd.trans (h : Extd w w1) (k : Extd w1 w2) : Extd w w2 := ⟨h.ext.trans k.ext, Nat.le_trans h.dr k.dr⟩
theorem Extd.drew (h : Extd w w1) : Extd w w1.drew := ⟨h.ext.drew, Nat.le_succ_of_le h.dr⟩
theorem Extd.alloc (h : Extd w w1) (o : Obj) : Extd w (w1.alloc o) := ⟨h.ext.alloc o, h.dr⟩
theorem Extd.setCell (h : Extd w w1) {p : Addr} (hp : w.heap.size ≤ p.block) (u : Value) : Extd w (w1.setCell p u) := ⟨h.ext.setCell hp u, h.dr⟩
theorem Extd.grow (h : Extd w w1) : ∃ (q : Nat) (os : Array Obj), w1 = Sort.grow (w.drewN q) os := by
  obtain ⟨⟨h1, h2, h3, h4, h5⟩, h6⟩ := h
  refine ⟨w1.drawn - w.drawn, w1.heap.extract w.heap.size w1.heap.size, ?_⟩
  have hh : w1.heap = w.heap ++ w1.heap.extract w.heap.size w1.heap.size := by
    apply Array.ext_getElem?
    intro i
    by_cases hi : i < w.heap.size
    · rw [Array.getElem?_append_left hi]
      exact h5 i hi
    · rw [Array.getElem?_append_right (by omega), Array.getElem?_extract]
      by_cases hi2 : i < w1.heap.size
      · rw [if_pos (by omega), show w.heap.size + (i - w.heap.size) = i by omega]
      · rw [if_neg (by omega), Array.getElem?_eq_none (by omega)]
  unfold Sort.grow World.drewN
  dsimp only
  rw [← hh, ← h1, ← h2, ← h3, show w.drawn + (w1.drawn - w.drawn) = w1.drawn by omega]
end
/-- a world that is greater than W and has drawn no less -/
structure EWd (W : World) where
  w : World
  exd : Extd W w
theorem EWd.ext {W : World} (x : EWd W) : Ext W x.w := x.exd.ext
instance ewdInh (W : World) : Nonempty (EWd W) := ⟨⟨W, Extd.refl W⟩⟩
theorem EWd.calls {P : Program} {W : World} {f : FuncId} {args : Array Value} {v : Value} (x : EWd W) (h : Calls P f args x.w fun e w' => e = .returned v ∧ Extd x.w w') :
    Calls P f args x.w fun e w'' => e = .returned v ∧ ∃ y : EWd W, w'' = y.w :=
  h.mono fun _ w' ⟨he, hx⟩ => ⟨he, ⟨w', x.exd.trans hx⟩, rfl⟩
end Go.Proofs.YtagfedbdakmlgaaGreatDoor

/-! FindX -/
namespace Go.Proofs.YtagfedbdakmlgaaGreatDoor
set_option linter.unusedVariables false
set_option linter.unusedSimpArgs false
open Go.RowKit
set_option maxHeartbeats 400000 in
theorem DFind1_x (x : Ev) (A' : Option Addr) (n' c' : Nat) (g : Nat) (id : Int) (w : World) (hB : Blk w g 2 #[.int .i64 id]) :
    Calls Tryz.prog 105 #[.agg #[.int .i64 x.id, .int .i64 x.inn, .int .i64 x.out, .string x.region, .int .u8 x.kind, .string x.speaker, .slice A' n' c'], .pointer (some ⟨g, 0, none⟩)] w fun e w' => e = .returned (.bool (x.id == id)) ∧ Extd w w' := by
  have HX := Lib.hid ((Extd.refl w).alloc (.cells #[.int .i64 x.id, .int .i64 x.inn, .int .i64 x.out, .string x.region, .int .u8 x.kind, .string x.speaker, .slice A' n' c'] 66))
  have hg : ∀ o, (w.alloc o).cell? ⟨g, 0, none⟩ = some (.int .i64 id) := fun o => (hB.alloc o).cell 0
  have hlt := hB.lt
  clear hB
  go_enter Tryz.func105, Tryz.ntmps105
  go_wp2_with fail
  go_ret
  exact ⟨rfl, HX.out⟩
def DIxRelX (w1 : World) (n : Nat) (id : Int) (l : List Ev) (i : Value) (wr : World) : Prop := ∃ k : Nat, k ≤ n ∧ i = .int .i64 k ∧ findE (l.take k) id = none ∧ Extd w1 wr
set_option maxRecDepth 100000 in
set_option maxHeartbeats 1000000 in
theorem DIndex_x (A : Option Addr) (n c : Nat) (l : List Ev) (g : Nat) (id : Int) (w : World) (hl : EvsAt w A n l) (hn : n ≤ 4611686018427387904) (hB : Blk w g 2 #[.int .i64 id]) :
    Calls Tryz.prog 104 #[.slice A n c, .func (.func 105) #[] #[.pointer (some ⟨g, 0, none⟩)]] w fun e w' => e = .returned (.int .i64 (findI l id)) ∧ Extd w w' := by
  have HE := Lib.hid hl
  have HLn := Lib.hid hl.len
  have HBg := Lib.hid hB
  clear hl hB
  go_enter Tryz.func104, Tryz.ntmps104
  go_wp2_with fail
  go_loopw [8] (fun i wr => DIxRelX w n id l i wr) (fun i _ => n - (intOf i).toNat)
  case atStart => exact ⟨0, Nat.zero_le _, rfl, rfl, Extd.refl _⟩
  case round =>
    obtain ⟨k, hk, rfl, hF, hx⟩ := hrel
    have HF := Lib.hid hF
    clear hF
    by_cases hlt : k < n
    · obtain ⟨b, off, x, A', n', c', rfl, hxx, -, c0, c1, c2, c3, c4, c5, c6⟩ := (HE.out.ext hx.ext).at_ev hlt
      have HXx := Lib.hid hxx
      have HCl := Lib.hid (DFind1_x x A' n' c' g id wr (HBg.out.ext hx.ext))
      clear hxx
      by_cases he : x.id = id
      · have hb : (x.id == id) = true := by simpa using he
        have HV := Lib.hid (findE_here HF.out HXx.out he)
        rw [hb] at HCl
        clear he hb
        go_wp2_with fail
        refine HCl.out.mono ?_
        rintro en w2 ⟨rfl, hx2⟩
        go_wp2_with fail
        go_ret
        exact ⟨ret_int (by unfold findI; rw [HV.out]), hx.trans hx2⟩
      · have hb : (x.id == id) = false := by simpa using he
        have HV := Lib.hid (findE_on HF.out HXx.out he)
        rw [hb] at HCl
        clear he hb
        go_wp2_with fail
        refine HCl.out.mono ?_
        rintro en w2 ⟨rfl, hx2⟩
        go_wp2_with fail
        exact ⟨⟨k + 1, by omega, by go_num, HV.out, hx.trans hx2⟩, by simp [intOf]; omega⟩
    · have hkn : k = n := by omega
      have HV : Hid (findE l id = none) := by
        show _ = _
        have h1 := HF.out
        rwa [List.take_of_length_le (by rw [HLn.out]; omega)] at h1
      subst hkn
      go_wp2_with fail
      go_ret
      exact ⟨ret_int (by unfold findI; rw [HV.out]), hx⟩
set_option maxHeartbeats 1000000 in
theorem DFind_x (d : Doc) (h : DocH) (id : Int) (w : World) (hat : EvsAt w h.ea h.en d.evs) (hn : h.en ≤ 4611686018427387904) :
    Calls Tryz.prog 38 #[.agg (d.cells h), .int .i64 id] w fun e w' => e = .returned (.int .i64 (findI d.evs id)) ∧ Extd w w' := by
  have HX : Hid (Extd w ((w.alloc (.cells (d.cells h) 27)).alloc (.cells #[.int .i64 id] 2))) := ((Extd.refl w).alloc _).alloc _
  have HI := Lib.hid (fun w' (hx : Extd w w') g hB => DIndex_x h.ea h.en h.ec d.evs g id w' (hat.ext hx.ext) hn hB)
  clear hat
  unfold Doc.cells at *
  go_enter Tryz.func38, Tryz.ntmps38
  go_wp2_with fail
  refine (HI.out _ HX.out (w.heap.size + 1) (Blk.new' (by simp))).mono ?_
  rintro en w2 ⟨rfl, hx2⟩
  go_wp2_with fail
  go_ret
  exact ⟨rfl, HX.out.trans hx2⟩
end Go.Proofs.YtagfedbdakmlgaaGreatDoor

/-! CloseP -/
namespace Go.Proofs.YtagfedbdakmlgaaGreatDoor
set_option linter.unusedVariables false
set_option linter.unusedSimpArgs false
open Go.RowKit
/-- a document and an error -/
abbrev DE := Doc × Int
def DEPost (X : DE) (w : World) (en : Ending) (w' : World) : Prop :=
  ∃ h', en = .returned (.tuple #[.agg (X.1.cells h'), .int .i64 X.2]) ∧ DocOwn w' w.heap.size X.1 h' ∧ Ext w w'
def Com.shut (c : Com) : Com := ⟨c.id, c.ev, c.fr, c.til, c.author, c.text, true, c.lost⟩
def Doc.withComs (d : Doc) (l : List Com) : Doc := ⟨d.title, d.lang, d.rate, d.drop, d.last, d.regs, d.evs, l⟩
/-- what Close comes to -/
def Doc.clX (d : Doc) (id : Int) : DE :=
  if d.err ≠ 0 then (Doc.zero, d.err) else match findC d.coms id with
    | none => (Doc.zero, 6)
    | some k => match d.coms[k]? with
      | none => (Doc.zero, 6)
      | some c => if c.done = true then (Doc.zero, 17) else (d.withComs (d.coms.set k c.shut), 0)
/-- what Remove comes to -/
def Doc.rmX (d : Doc) (id : Int) : DE :=
  if d.err ≠ 0 then (Doc.zero, d.err) else match findC d.coms id with
    | none => (Doc.zero, 6)
    | some k => (d.withComs (d.coms.take k ++ d.coms.drop (k + 1)), 0)
section
variable {d : Doc} {id : Int} {k : Nat} {c : Com}
end
/-- a cell of an element is stored -/
theorem flatMap_setC {α : Type} {f : α → List Value} {s : Nat} (hf : ∀ x, (f x).length = s) : ∀ {l : List α} {k j : Nat} {x y : α} {u : Value}, l[k]? = some x → f y = (f x).set j u → j < s → (l.flatMap f).set (k * s + j) u = (l.set k y).flatMap f
  | [], k, j, x, y, u, hx, _, _ => by simp at hx
  | z :: l, 0, j, x, y, u, hx, hy, hj => by
    simp only [List.getElem?_cons_zero, Option.some.injEq] at hx
    subst hx
    simp only [List.flatMap_cons, List.set_cons_zero, Nat.zero_mul, Nat.zero_add]
    rw [List.set_append_left _ _ (by rw [hf]; exact hj), hy]
  | z :: l, k + 1, j, x, y, u, hx, hy, hj => by
    simp only [List.getElem?_cons_succ] at hx
    simp only [List.flatMap_cons, List.set_cons_succ]
    have e : (k + 1) * s + j = (f z).length + (k * s + j) := by rw [hf, Nat.succ_mul]; omega
    rw [e, List.set_append_right _ _ (by omega), Nat.add_sub_cancel_left, flatMap_setC hf hx hy hj]
theorem flatMap_take {α : Type} {f : α → List Value} {s : Nat} (hf : ∀ x, (f x).length = s) (l : List α) : ∀ (k : Nat), (l.flatMap f).take (k * s) = (l.take k).flatMap f := by
  induction l with
  | nil => intro k; simp
  | cons z l ih =>
    intro k
    cases k with
    | zero => simp
    | succ k =>
      simp only [List.flatMap_cons, List.take_succ_cons]
      have e : (k + 1) * s = (f z).length + k * s := by rw [hf, Nat.succ_mul]; omega
      rw [e, List.take_length_add_append, ih]
/-- one's own document with a comment shut -/
theorem DocOwn.shut {w : World} {L k : Nat} {d : Doc} {h : DocH} {c : Com} (o : DocOwn w L d h) (hc : d.coms[k]? = some c) : ∃ g, h.ca = some ⟨g, 0, none⟩ ∧ L ≤ g ∧ Typed w 78 g ∧ w.cell? ⟨g, k * 8 + 6, none⟩ = some (.bool c.done) ∧ w.frozen? ⟨g, k * 8 + 6, none⟩ = false ∧
    DocOwn (w.setCell ⟨g, k * 8 + 6, none⟩ (.bool true)) L (d.withComs (d.coms.set k c.shut)) h ∧ w.grownBy (w.setCell ⟨g, k * 8 + 6, none⟩ (.bool true)) (some g) := by
  obtain ⟨a1, a2, a3, a4, a5⟩ := o
  have hk := (List.getElem?_eq_some_iff.1 hc).1
  have hty := own_typed a4
  have hlt := own_lt a4
  rcases a4.2 with ⟨hv, hn⟩ | ⟨g, cap, cur, hv, hg, hb, hnc, hcm, hcs, ht⟩
  · rw [hn] at a5; omega
  · have hca : h.ca = some ⟨g, 0, none⟩ := by injection hv
    rw [hca] at a4 hty
    have hs := a4.stored (k * 8 + 6) (.bool true)
    have hT : Typed w 78 g := hty g rfl
    have hkb : ∀ {T : TypeId}, T ≠ 78 → KB T w (w.setCell ⟨g, k * 8 + 6, none⟩ (.bool true)) := fun hne => KB.grown hs.2 (fun q hq => by cases hq; exact hT) hne
    have hfl : (d.coms.flatMap Com.vals).set (k * 8 + 6) (.bool true) = (d.coms.set k c.shut).flatMap Com.vals := flatMap_setC (f := Com.vals) (s := 8) (fun _ => rfl) hc rfl (by omega)
    refine ⟨g, hca, hg, hT, ?_, hT.frozen _, ⟨own_kb a1 (hkb (by decide)), a2, a3.kb (hkb (by decide)) (hkb (by decide)) (hkb (by decide)), ?_, by show (d.coms.set k c.shut).length = _; simpa using a5⟩, hs.2⟩
    · rw [a4.cellAt (k * 8 + 6) (by omega), flatMap_at Com.vals 8 (fun _ => rfl) d.coms k c 6 hc (by omega)]
      rfl
    · show World.ownsRow _ _ _ _ _ _ ((d.coms.set k c.shut).flatMap Com.vals)
      rw [← hfl, hca]
      exact hs.1
end Go.Proofs.YtagfedbdakmlgaaGreatDoor

/-! DelP -/
namespace Go.Proofs.YtagfedbdakmlgaaGreatDoor
set_option linter.unusedVariables false
set_option linter.unusedSimpArgs false
open Go.RowKit
theorem setRow_put {w : World} {g : Nat} {t : TypeId} {cs cs' : Array Value} (h : Blk w g t cs) : w.setRow g cs' = putB w g t cs' := by
  unfold World.setRow putB
  congr 1
  apply Array.ext_getElem?
  intro i
  by_cases hi : g = i
  · subst hi
    rw [Array.getElem?_modify, if_pos rfl, h, Array.getElem?_setIfInBounds_self_of_lt h.lt]
    rfl
  · rw [Array.getElem?_modify, if_neg hi, Array.getElem?_setIfInBounds_ne hi]
theorem zeroCells_one (z : Array Value) (n : Nat) (h : z.all (·.oneCell') = true) : ∀ u ∈ (Builtin.zeroCells z n).toList, u.oneCell' = true := by
  intro u hu
  unfold Builtin.zeroCells at hu
  rw [Array.mem_toList_iff, Array.mem_map] at hu
  obtain ⟨i, hi, rfl⟩ := hu
  cases hz : z.size with
  | zero => rw [Array.mem_range] at hi; rw [hz] at hi; simp at hi
  | succ m =>
    have hlt : i % z.size < z.size := Nat.mod_lt _ (by omega)
    rw [hz] at hlt
    rw [getElem!_pos z (i % (m + 1)) (by omega)]
    exact (Array.all_eq_true_iff_forall_mem.1 h) _ (Array.getElem_mem _)
/-- clear, at a block that is known whole: what lies ahead stays -/
theorem run_clear_blk {P : Program} {w : World} {t e ty : TypeId} {z : Value} (ht : P.underlying t = some (.slice e)) (hv : ∀ w, (zeroValue e).run P w = .ok z w) (h1 : z.cells.all (·.oneCell') = true) {g o n c : Nat} {cur : Array Value} (hB : Blk w g e cur) (hfit : o + n * z.cells.size ≤ cur.size) :
    ∃ cur' : Array Value, cur'.size = cur.size ∧ cur'.toList.take o = cur.toList.take o ∧ (Builtin.clear_ #[t] ty #[.slice (some ⟨g, o, none⟩) n c]).run P w = .ok (.tuple #[]) (putB w g e cur') := by
  cases n with
  | zero =>
    refine ⟨cur, rfl, rfl, ?_⟩
    rw [putB_same hB]
    simp [Builtin.clear_, run_underlying ht]
  | succ n =>
    have hsz : (Builtin.zeroCells z.cells (n + 1)).toList.length = (n + 1) * z.cells.size := by simp [Builtin.zeroCells]
    have hst := run_storeCells_at P g o e (Builtin.zeroCells z.cells (n + 1)).toList 0 cur w hB (by rw [hsz]; simpa using hfit) (zeroCells_one _ _ h1)
    simp only [Nat.add_zero] at hst
    rw [setRow_put hB] at hst
    refine ⟨(cur.toList.take o ++ (Builtin.zeroCells z.cells (n + 1)).toList ++ cur.toList.drop (o + (Builtin.zeroCells z.cells (n + 1)).toList.length)).toArray, ?_, ?_, ?_⟩
    · simp [Builtin.zeroCells]; omega
    · rw [List.append_assoc, List.take_append_of_le_length (by simp; omega), List.take_take, Nat.min_self]
    · simp [Builtin.clear_, run_underlying ht, hv, hst]
end Go.Proofs.YtagfedbdakmlgaaGreatDoor

/-! DelC -/
namespace Go.Proofs.YtagfedbdakmlgaaGreatDoor
set_option linter.unusedVariables false
set_option linter.unusedSimpArgs false
open Go.RowKit
/-- an append in place, then its assignment, in a drawn region -/
structure DelJ (g : Nat) (cur2 : Array Value) (v : Value) (W : World) (us : List Value) (w' : World) : Prop where
  nil : us = [] → Ext W w'
  val : ∀ u, us = [u] → u = v
  vals : ∀ u u1, us = [u, u1] → u = v ∧ u1 = v
  one : us ≠ [] → ∃ w5, Ext W w5 ∧ w' = putB w5 g 78 cur2
section
variable {g : Nat} {cur2 : Array Value} {v : Value} {W w' : World}
theorem DelJ.start (W : World) : DelJ g cur2 v W [] W.drew := ⟨fun _ => (Ext.refl W).drew, fun u h => by simp at h, fun u u1 h => by simp at h, fun h => absurd rfl h⟩
end
theorem zero_com (w : World) : (zeroValue 78).run Tryz.prog w = .ok (.agg #[.int .i64 0, .int .i64 0, .int .i64 0, .int .i64 0, .string ⟨#[]⟩, .string ⟨#[]⟩, .bool false, .bool false]) w := by kernel_rfl
end Go.Proofs.YtagfedbdakmlgaaGreatDoor

/-! SortP -/
namespace Go.Proofs.YtagfedbdakmlgaaGreatDoor.Stb
set_option linter.unusedVariables false
set_option linter.unusedSimpArgs false
section
variable {α : Type}
/-- a strict weak order -/
structure SW (lt : α → α → Bool) : Prop where
  asym : ∀ x y, lt x y = true → lt y x = false
  trans : ∀ x y z, lt y x = false → lt z y = false → lt z x = false
def eqv (lt : α → α → Bool) (x y : α) : Bool := !lt x y && !lt y x
/-- two places exchanged -/
def swp (l : List α) (i j : Nat) : List α := match l[i]?, l[j]? with
  | some x, some y => (l.set i y).set j x
  | _, _ => l
theorem swp_at {l : List α} {i j : Nat} (hi : i < l.length) (hj : j < l.length) (p : Nat) : (swp l i j)[p]? = if p = j then l[i]? else if p = i then l[j]? else l[p]? := by
  unfold swp
  rw [List.getElem?_eq_getElem hi, List.getElem?_eq_getElem hj]
  simp only
  rw [List.getElem?_set, List.getElem?_set]
  by_cases h1 : p = j
  · subst h1; simp [hj]
  · rw [if_neg (Ne.symm h1), if_neg h1]
    by_cases h2 : p = i
    · subst h2; simp [hi]
    · rw [if_neg (Ne.symm h2), if_neg h2]
/-- the blocks [a, m) and [m, b) exchanged -/
def rot (l : List α) (a m b : Nat) : List α := l.take a ++ ((l.take b).drop m ++ ((l.take m).drop a ++ l.drop b))
theorem rot_len {l : List α} {a m b : Nat} (h1 : a ≤ m) (h2 : m ≤ b) (h3 : b ≤ l.length) : (rot l a m b).length = l.length := by
  unfold rot; simp only [List.length_append, List.length_take, List.length_drop]; omega
theorem rot_at {l : List α} {a m b : Nat} (h1 : a ≤ m) (h2 : m ≤ b) (h3 : b ≤ l.length) (p : Nat) :
    (rot l a m b)[p]? = if p < a then l[p]? else if p < a + (b - m) then l[p + (m - a)]? else if p < b then l[p - (b - m)]? else l[p]? := by
  unfold rot
  simp only [List.getElem?_append, List.length_take, List.length_drop, List.getElem?_take, List.getElem?_drop]
  by_cases c1 : p < a
  · rw [if_pos (by omega), if_pos c1, if_pos c1]
  rw [if_neg (by omega), if_neg c1]
  by_cases c2 : p < a + (b - m)
  · rw [if_pos (by omega), if_pos (by omega), if_pos c2]; congr 1; omega
  rw [if_neg (by omega), if_neg c2]
  by_cases c3 : p < b
  · rw [if_pos (by omega), if_pos (by omega), if_pos c3]; congr 1; omega
  · rw [if_neg (by omega), if_neg c3]; congr 1; omega
/-- the ranges of n from a and from b exchanged -/
def swr (l : List α) (a b : Nat) : Nat → List α
  | 0 => l
  | n + 1 => swp (swr l a b n) (a + n) (b + n)
/-- l' is l but for a stable change of the places [a, b) -/
structure Loc (lt : α → α → Bool) (a b : Nat) (l l' : List α) : Prop where
  len : l'.length = l.length
  out : ∀ p, p < a ∨ b ≤ p → l'[p]? = l[p]?
  cls : ∀ k, l'.filter (eqv lt k) = l.filter (eqv lt k)
variable {lt : α → α → Bool} {a b c d m : Nat} {l l' l2 : List α}
theorem Loc.refl (l : List α) : Loc lt a b l l := ⟨rfl, fun _ _ => rfl, fun _ => rfl⟩
theorem Loc.trans (h : Loc lt a b l l') (k : Loc lt a b l' l2) : Loc lt a b l l2 := ⟨k.len.trans h.len, fun p hp => (k.out p hp).trans (h.out p hp), fun x => (k.cls x).trans (h.cls x)⟩
theorem Loc.wide (h : Loc lt a b l l') (h1 : c ≤ a) (h2 : b ≤ d) : Loc lt c d l l' := ⟨h.len, fun p hp => h.out p (by omega), h.cls⟩
theorem SW.irr (w : SW lt) (x : α) : lt x x = false := by
  cases h : lt x x
  · rfl
  · have := w.asym x x h; rw [h] at this; exact this
theorem eqv_self (w : SW lt) (x : α) : eqv lt x x = true := by
  simp [eqv, w.irr x]
theorem eqv_trans (w : SW lt) {k x y : α} (h1 : eqv lt k x = true) (h2 : eqv lt k y = true) : lt x y = false ∧ lt y x = false := by
  simp only [eqv, Bool.and_eq_true, Bool.not_eq_true'] at h1 h2
  exact ⟨w.trans y k x h2.1 h1.2, w.trans x k y h1.1 h2.2⟩
theorem Loc.rot (w : SW lt) (h1 : a ≤ m) (h2 : m ≤ b) (h3 : b ≤ l.length) (hne : ∀ p q x y, a ≤ p → p < m → m ≤ q → q < b → l[p]? = some x → l[q]? = some y → lt y x = true) : Loc lt a b l (rot l a m b) := by
  refine ⟨rot_len h1 h2 h3, fun p hp => ?_, fun k => ?_⟩
  · rw [rot_at h1 h2 h3]
    rcases hp with hp | hp
    · rw [if_pos hp]
    · rw [if_neg (by omega), if_neg (by omega), if_neg (by omega)]
  · have e : l = l.take a ++ ((l.take m).drop a ++ ((l.take b).drop m ++ l.drop b)) := by
      apply List.ext_getElem?; intro p
      simp only [List.getElem?_append, List.length_take, List.length_drop, List.getElem?_take, List.getElem?_drop]
      repeat' split
      all_goals first | rfl | (congr 1; omega) | (exfalso; omega)
    unfold Stb.rot
    conv => rhs; rw [e]
    simp only [List.filter_append]
    congr 1
    rw [← List.append_assoc, ← List.append_assoc]
    congr 1
    have key : (((l.take m).drop a).filter (eqv lt k)) = [] ∨ (((l.take b).drop m).filter (eqv lt k)) = [] := by
      by_cases hu : (((l.take m).drop a).filter (eqv lt k)) = []
      · exact .inl hu
      right
      obtain ⟨x, hx⟩ := List.exists_mem_of_ne_nil _ hu
      rw [List.mem_filter] at hx
      rw [List.filter_eq_nil_iff]
      intro y hy hk
      obtain ⟨p, hp⟩ := List.getElem?_of_mem hx.1
      obtain ⟨q, hq⟩ := List.getElem?_of_mem hy
      rw [List.getElem?_drop, List.getElem?_take] at hp hq
      split at hp
      · split at hq
        · have := hne _ _ x y (by omega) (by omega) (by omega) (by omega) hp hq
          rw [(eqv_trans w hx.2 hk).2] at this
          cases this
        · cases hq
      · cases hp
    rcases key with h | h <;> rw [h] <;> simp
/-- whatever lies there has lain there -/
theorem Loc.mem (w : SW lt) (h : Loc lt a b l l') {p : Nat} {x : α} (hp : a ≤ p) (hp2 : p < b) (hx : l'[p]? = some x) : ∃ q, a ≤ q ∧ q < b ∧ l[q]? = some x := by
  have hl := (List.getElem?_eq_some_iff.1 hx).1
  have hab : a ≤ b := by omega
  have e : ∀ s : List α, s = s.take a ++ ((s.take b).drop a ++ s.drop b) := fun s => by
    have h1 : (s.take b).take a = s.take a := by rw [List.take_take, Nat.min_eq_left hab]
    rw [← List.append_assoc, ← h1, List.take_append_drop, List.take_append_drop]
  have e1 : l'.take a = l.take a := by
    apply List.ext_getElem?; intro p
    simp only [List.getElem?_take]
    split
    · exact h.out p (by omega)
    · rfl
  have e2 : l'.drop b = l.drop b := by
    apply List.ext_getElem?; intro p
    simp only [List.getElem?_drop]
    exact h.out _ (by omega)
  have hc := h.cls x
  rw [e l', e l, e1, e2] at hc
  simp only [List.filter_append] at hc
  have hc := List.append_cancel_right (List.append_cancel_left hc)
  have hm : x ∈ ((l'.take b).drop a).filter (eqv lt x) := by
    rw [List.mem_filter]
    refine ⟨List.mem_of_getElem? (i := p - a) ?_, eqv_self w x⟩
    rw [List.getElem?_drop, List.getElem?_take, if_pos (by omega)]
    rw [show a + (p - a) = p by omega]; exact hx
  rw [hc, List.mem_filter] at hm
  obtain ⟨q, hq⟩ := List.getElem?_of_mem hm.1
  rw [List.getElem?_drop, List.getElem?_take] at hq
  split at hq
  · exact ⟨a + q, by omega, by omega, hq⟩
  · cases hq
/-- the places [a, b) are in order -/
def Srt (lt : α → α → Bool) (l : List α) (a b : Nat) : Prop := ∀ p q x y, a ≤ p → p < q → q < b → l[p]? = some x → l[q]? = some y → lt y x = false
theorem Srt.one (h : b ≤ a + 1) : Srt lt l a b := fun p q x y h1 h2 h3 => by omega
theorem Srt.of_out (h : Srt lt l a b) (k : Loc lt c d l l') (hd : b ≤ c ∨ d ≤ a) : Srt lt l' a b := fun p q x y h1 h2 h3 h4 h5 =>
  h p q x y h1 h2 h3 (by rw [← k.out p (by omega)]; exact h4) (by rw [← k.out q (by omega)]; exact h5)
/-- insertion: all is in order but for what lies at j, seen from ahead -/
def Ins (lt : α → α → Bool) (l : List α) (a j i : Nat) : Prop := ∀ p q x y, a ≤ p → p < q → q ≤ i → q ≠ j → l[p]? = some x → l[q]? = some y → lt y x = false
theorem Ins.start {i : Nat} (h : Srt lt l a i) : Ins lt l a i i := fun p q x y h1 h2 h3 h4 => h p q x y h1 h2 (by omega)
theorem Ins.step (w : SW lt) {i j : Nat} {x y : α} (h : Ins lt l a j i) (h1 : a < j) (h2 : j ≤ i) (h3 : i < l.length) (hx : l[j - 1]? = some x) (hy : l[j]? = some y) (hlt : lt y x = true) : Ins lt (swp l j (j - 1)) a (j - 1) i := by
  intro p q u v hp hpq hq hne hu hv
  rw [swp_at (by omega) (by omega)] at hu hv
  by_cases q1 : q = j
  · subst q1
    rw [if_neg (by omega), if_pos rfl] at hv
    by_cases p1 : p = q - 1
    · subst p1
      rw [if_pos rfl] at hu
      rw [hu] at hy; cases hy
      rw [hv] at hx; cases hx
      exact w.asym _ _ hlt
    · rw [if_neg p1, if_neg (by omega)] at hu
      exact h p (q - 1) u v hp (by omega) (by omega) (by omega) hu hv
  · rw [if_neg hne, if_neg q1] at hv
    by_cases p1 : p = j - 1
    · subst p1
      rw [if_pos rfl] at hu
      exact h j q u v (by omega) (by omega) hq q1 hu hv
    · rw [if_neg p1] at hu
      by_cases p2 : p = j
      · subst p2
        rw [if_pos rfl] at hu
        exact h (p - 1) q u v (by omega) (by omega) hq q1 hu hv
      · rw [if_neg p2] at hu
        exact h p q u v hp hpq hq q1 hu hv
theorem swp_rot {j : Nat} (h0 : 0 < j) (h : j < l.length) : swp l j (j - 1) = rot l (j - 1) j (j + 1) := by
  apply List.ext_getElem?; intro p
  rw [swp_at (by omega) (by omega), rot_at (by omega) (by omega) (by omega)]
  repeat' split
  all_goals first | rfl | (congr 1; omega) | (exfalso; omega)
theorem Loc.swap (w : SW lt) {j : Nat} {x y : α} (h0 : 0 < j) (h : j < l.length) (hx : l[j - 1]? = some x) (hy : l[j]? = some y) (hlt : lt y x = true) : Loc lt (j - 1) (j + 1) l (swp l j (j - 1)) := by
  rw [swp_rot h0 h]
  refine Loc.rot w (by omega) (by omega) (by omega) fun p q u v h1 h2 h3 h4 hu hv => ?_
  obtain rfl : p = j - 1 := by omega
  obtain rfl : q = j := by omega
  rw [hx] at hu; cases hu
  rw [hy] at hv; cases hv
  exact hlt
/-- what the search of the symmetric merge has found -/
structure Cut (lt : α → α → Bool) (l : List α) (a m b mid s : Nat) : Prop where
  ge : a ≤ s
  lem : s ≤ m
  mide : mid + m - s ≤ b
  le : m ≤ mid + m - s
  mid_ge : s ≤ mid
  lo : ∀ x y, a < s → l[s - 1]? = some x → l[mid + m - s]? = some y → mid + m - s < b → lt y x = false
  hi : ∀ x y, s < m → m < mid + m - s → l[s]? = some x → l[mid + m - s - 1]? = some y → lt y x = true
theorem Cut.rot (w : SW lt) {mid s : Nat} (h : Cut lt l a m b mid s) (h3 : b ≤ l.length) (s1 : Srt lt l a m) (s2 : Srt lt l m b) : Loc lt a b l (rot l s m (mid + m - s)) ∧ Srt lt (rot l s m (mid + m - s)) a s ∧ Srt lt (rot l s m (mid + m - s)) s mid ∧
    Srt lt (rot l s m (mid + m - s)) mid (mid + m - s) ∧ Srt lt (rot l s m (mid + m - s)) (mid + m - s) b ∧
    ∀ p q x y, a ≤ p → p < mid → mid ≤ q → q < b → (rot l s m (mid + m - s))[p]? = some x → (rot l s m (mid + m - s))[q]? = some y → lt y x = false := by
  obtain ⟨g1, g2, g3, g4, g5, lo, hi⟩ := h
  have hle : ∀ p q x y, s ≤ p → p < m → m ≤ q → q < mid + m - s → l[p]? = some x → l[q]? = some y → lt y x = true := fun p q x y h1 h2 h3' h4 hx hy => by
    obtain ⟨u, hu⟩ : ∃ u, l[s]? = some u := ⟨_, List.getElem?_eq_getElem (by omega)⟩
    obtain ⟨v, hv⟩ : ∃ v, l[mid + m - s - 1]? = some v := ⟨_, List.getElem?_eq_getElem (by omega)⟩
    have huv := hi u v (by omega) (by omega) hu hv
    have hux : lt x u = false := by
      by_cases hp : p = s
      · subst hp; rw [hu] at hx; cases hx; exact w.irr _
      · exact s1 s p u x g1 (by omega) h2 hu hx
    have hyv : lt v y = false := by
      by_cases hq : q = mid + m - s - 1
      · subst hq; rw [hv] at hy; cases hy; exact w.irr _
      · exact s2 q _ y v h3' (by omega) (by omega) hy hv
    cases hyx : lt y x
    · have h1 := w.trans x y v hyx hyv
      have h2 := w.trans u x v hux h1
      rw [huv] at h2; exact h2.symm
    · rfl
  have hat := rot_at (l := l) g2 g4 (by omega)
  refine ⟨(Loc.rot w g2 g4 (by omega) hle).wide g1 g3, ?_, ?_, ?_, ?_, ?_⟩
  · intro p q x y h1 h2 h3 hx hy
    rw [hat, if_pos (by omega)] at hx hy
    exact s1 p q x y h1 h2 (by omega) hx hy
  · intro p q x y h1 h2 h3 hx hy
    rw [hat, if_neg (by omega), if_pos (by omega)] at hx hy
    exact s2 _ _ x y (by omega) (by omega) (by omega) hx hy
  · intro p q x y h1 h2 h3 hx hy
    rw [hat, if_neg (by omega), if_neg (by omega), if_pos (by omega)] at hx hy
    exact s1 _ _ x y (by omega) (by omega) (by omega) hx hy
  · intro p q x y h1 h2 h3 hx hy
    rw [hat, if_neg (by omega), if_neg (by omega), if_neg (by omega)] at hx hy
    exact s2 p q x y (by omega) h2 h3 hx hy
  · intro p q x y h1 h2 h3 h4 hx hy
    rw [hat] at hx hy
    rw [if_neg (by omega), if_neg (by omega)] at hy
    by_cases c1 : p < s
    · rw [if_pos c1] at hx
      by_cases c2 : q < mid + m - s
      · rw [if_pos c2] at hy
        exact s1 _ _ x y h1 (by omega) (by omega) hx hy
      · rw [if_neg c2] at hy
        obtain ⟨u, hu⟩ : ∃ u, l[s - 1]? = some u := ⟨_, List.getElem?_eq_getElem (by omega)⟩
        obtain ⟨v, hv⟩ : ∃ v, l[mid + m - s]? = some v := ⟨_, List.getElem?_eq_getElem (by omega)⟩
        have huv := lo u v (by omega) hu hv (by omega)
        have hxu : lt u x = false := by
          by_cases hp : p = s - 1
          · subst hp; rw [hu] at hx; cases hx; exact w.irr _
          · exact s1 p _ x u h1 (by omega) (by omega) hx hu
        have hvy : lt y v = false := by
          by_cases hq : q = mid + m - s
          · subst hq; rw [hv] at hy; cases hy; exact w.irr _
          · exact s2 _ q v y (by omega) (by omega) h4 hv hy
        exact w.trans x v y (w.trans x u v hxu huv) hvy
    · rw [if_neg c1, if_pos (by omega)] at hx
      by_cases c2 : q < mid + m - s
      · rw [if_pos c2] at hy
        exact w.asym _ _ (hle _ _ y x (by omega) (by omega) (by omega) (by omega) hy hx)
      · rw [if_neg c2] at hy
        exact s2 _ _ x y (by omega) (by omega) h4 hx hy
/-- the two halves sorted each, and the left not above the right -/
theorem Srt.join (w : SW lt) {mid : Nat} (k1 : Loc lt a mid l l') (k2 : Loc lt mid b l' l2) (s1 : Srt lt l' a mid) (s2 : Srt lt l2 mid b) (h1 : a ≤ mid) (h2 : mid ≤ b)
    (hc : ∀ p q x y, a ≤ p → p < mid → mid ≤ q → q < b → l[p]? = some x → l[q]? = some y → lt y x = false) : Loc lt a b l l2 ∧ Srt lt l2 a b := by
  refine ⟨(k1.wide (Nat.le_refl _) h2).trans (k2.wide h1 (Nat.le_refl _)), fun p q x y a1 a2 a3 hx hy => ?_⟩
  by_cases hq : q < mid
  · exact (s1.of_out k2 (.inl (Nat.le_refl _))) p q x y a1 a2 hq hx hy
  by_cases hp : mid ≤ p
  · exact s2 p q x y hp a2 a3 hx hy
  rw [k2.out p (by omega)] at hx
  obtain ⟨p', hp1, hp2, hx'⟩ := k1.mem w a1 (by omega) hx
  obtain ⟨q', hq1, hq2, hy'⟩ := k2.mem w (by omega) a3 hy
  rw [k1.out q' (by omega)] at hy'
  exact hc p' q' x y hp1 hp2 hq1 hq2 hx' hy'
/-- from a on blocks of B are in order, up to n -/
inductive Bl (lt : α → α → Bool) (l : List α) (B n : Nat) : Nat → Prop
  | nil {a : Nat} : n ≤ a → Bl lt l B n a
  | cons {a : Nat} : Srt lt l a (min (a + B) n) → Bl lt l B n (a + B) → Bl lt l B n a
/-- up to a blocks of B are in order -/
inductive Up (lt : α → α → Bool) (l : List α) (B : Nat) : Nat → Prop
  | nil : Up lt l B 0
  | snoc {a : Nat} : Up lt l B a → Srt lt l a (a + B) → Up lt l B (a + B)
theorem Bl.out {B n e : Nat} (h : Bl lt l B n e) (k : Loc lt c d l l') (hd : d ≤ e) : Bl lt l' B n e := by
  induction h with
  | nil h => exact .nil h
  | cons h1 _ ih => exact .cons (h1.of_out k (.inr hd)) (ih (by omega))
theorem Up.out {B e : Nat} (h : Up lt l B e) (k : Loc lt c d l l') (hd : e ≤ c) : Up lt l' B e := by
  induction h with
  | nil => exact .nil
  | snoc _ h2 ih => exact .snoc (ih (by omega)) (h2.of_out k (.inl hd))
theorem Up.join {B n e : Nat} (h : Up lt l B e) (k : Bl lt l B n e) (he : e ≤ n) : Bl lt l B n 0 := by
  induction h with
  | nil => exact k
  | snoc h1 h2 ih => exact ih (.cons (by rw [Nat.min_eq_left he]; exact h2) k) (by omega)
theorem Bl.head {B n e : Nat} (h : Bl lt l B n e) (he : e < n) : Srt lt l e (min (e + B) n) ∧ Bl lt l B n (e + B) := by
  cases h with
  | nil h => omega
  | cons h1 h2 => exact ⟨h1, h2⟩
theorem Bl.all {B n : Nat} (h : Bl lt l B n 0) (hB : n ≤ B) : Srt lt l 0 n := by
  by_cases h0 : 0 < n
  · have := (h.head h0).1
    rwa [Nat.zero_add, Nat.min_eq_right hB] at this
  · exact Srt.one (by omega)
/-- stable insertion -/
def insS (lt : α → α → Bool) (x : α) : List α → List α
  | [] => [x]
  | y :: l => if lt x y = true then x :: y :: l else y :: insS lt x l
def sortS (lt : α → α → Bool) (l : List α) : List α := l.foldl (fun acc x => insS lt x acc) []
theorem insS_mem (x : α) : ∀ (l : List α) (z : α), z ∈ insS lt x l ↔ z = x ∨ z ∈ l
  | [], z => by simp [insS]
  | y :: l, z => by
    unfold insS
    split
    · simp
    · simp only [List.mem_cons, insS_mem x l z]; constructor <;> (rintro (h | h | h) <;> simp [h])
theorem insS_sorted (w : SW lt) (x : α) : ∀ (l : List α), l.Pairwise (fun x y => lt y x = false) → (insS lt x l).Pairwise (fun x y => lt y x = false)
  | [], _ => by simp [insS]
  | y :: l, h => by
    rw [List.pairwise_cons] at h
    unfold insS
    split
    · rename_i hlt
      rw [List.pairwise_cons, List.pairwise_cons]
      refine ⟨fun z hz => ?_, h⟩
      rcases List.mem_cons.1 hz with rfl | hz
      · exact w.asym _ _ hlt
      · exact w.trans x y z (w.asym _ _ hlt) (h.1 z hz)
    · rename_i hlt
      rw [List.pairwise_cons]
      refine ⟨fun z hz => ?_, insS_sorted w x l h.2⟩
      rcases (insS_mem x l z).1 hz with rfl | hz
      · simpa using hlt
      · exact h.1 z hz
theorem insS_cls (w : SW lt) (x k : α) : ∀ (l : List α), (insS lt x l).filter (eqv lt k) = l.filter (eqv lt k) ++ [x].filter (eqv lt k) ∨ ¬ l.Pairwise (fun x y => lt y x = false)
  | [] => .inl rfl
  | y :: l => by
    by_cases hp : (y :: l).Pairwise (fun x y => lt y x = false)
    case neg => exact .inr hp
    left
    have hp' := List.pairwise_cons.1 hp
    unfold insS
    split
    · rename_i hlt
      by_cases hk : eqv lt k x = true
      · have hnil : (y :: l).filter (eqv lt k) = [] := by
          rw [List.filter_eq_nil_iff]
          intro z hz hkz
          have hxz := (eqv_trans w hk hkz).1
          rcases List.mem_cons.1 hz with rfl | hz
          · rw [hlt] at hxz; cases hxz
          · have h1 := hp'.1 z hz
            have h2 := w.trans y z x h1 hxz
            rw [hlt] at h2; cases h2
        rw [List.filter_cons, if_pos hk, hnil]
        simp [List.filter_cons, hk]
      · rw [List.filter_cons, if_neg hk]
        simp [hk]
    · have ih := (insS_cls w x k l).resolve_right (fun h => h hp'.2)
      rw [List.filter_cons, List.filter_cons, ih]
      split <;> simp
theorem sortS_spec (w : SW lt) (l : List α) : (sortS lt l).Pairwise (fun x y => lt y x = false) ∧ ∀ k, (sortS lt l).filter (eqv lt k) = l.filter (eqv lt k) := by
  have key : ∀ (l acc pre : List α), acc.Pairwise (fun x y => lt y x = false) → (∀ k, acc.filter (eqv lt k) = pre.filter (eqv lt k)) →
      (l.foldl (fun acc x => insS lt x acc) acc).Pairwise (fun x y => lt y x = false) ∧ ∀ k, (l.foldl (fun acc x => insS lt x acc) acc).filter (eqv lt k) = (pre ++ l).filter (eqv lt k) := by
    intro l
    induction l with
    | nil => intro acc pre h1 h2; exact ⟨h1, fun k => by simpa using h2 k⟩
    | cons x l ih =>
      intro acc pre h1 h2
      have := ih (insS lt x acc) (pre ++ [x]) (insS_sorted w x acc h1) (fun k => by
        rw [(insS_cls w x k acc).resolve_right (fun h => h h1), h2 k, List.filter_append])
      refine ⟨this.1, fun k => ?_⟩
      rw [List.foldl_cons, this.2 k]; simp
  simpa [sortS] using key l [] [] List.Pairwise.nil (fun _ => rfl)
/-- insertion from the right -/
theorem insS_split (w : SW lt) : ∀ (l : List α) (x : α) (k : Nat), l.Pairwise (fun x y => lt y x = false) → k ≤ l.length → (∀ j y, k ≤ j → l[j]? = some y → lt x y = true) → (k = 0 ∨ ∀ y, l[k - 1]? = some y → lt x y = false) → insS lt x l = l.take k ++ x :: l.drop k
  | [], x, k, _, hk, _, _ => by obtain rfl : k = 0 := by simpa using hk
                                rfl
  | y :: l, x, 0, _, _, h, _ => by rw [insS, if_pos (h 0 y (Nat.le_refl _) rfl)]; rfl
  | y :: l, x, k + 1, hp, hk, h, h2 => by
    have hp' := List.pairwise_cons.1 hp
    have h2 := h2.resolve_left (by omega)
    have hxy : lt x y = false := by
      cases k with
      | zero => exact h2 y rfl
      | succ k =>
        obtain ⟨z, hz⟩ : ∃ z, l[k]? = some z := ⟨_, List.getElem?_eq_getElem (by simp at hk; omega)⟩
        exact w.trans y z x (hp'.1 z (List.mem_of_getElem? hz)) (h2 z (by simpa using hz))
    rw [insS, if_neg (by rw [hxy]; decide), insS_split w l x k hp'.2 (by simpa using hk) (fun j z hj hz => h (j + 1) z (by omega) (by simpa using hz))
      (by cases k with
        | zero => exact .inl rfl
        | succ k => exact .inr fun z hz => h2 z (by simpa using hz))]
    simp
theorem sortS_snoc (l : List α) (x : α) : sortS lt (l ++ [x]) = insS lt x (sortS lt l) := by simp [sortS]
theorem insS_len (x : α) : ∀ l : List α, (insS lt x l).length = l.length + 1
  | [] => rfl
  | y :: l => by unfold insS; split <;> simp [insS_len x l]
theorem sortS_len (l : List α) : (sortS lt l).length = l.length := by
  have key : ∀ (l acc : List α), (l.foldl (fun acc x => insS lt x acc) acc).length = acc.length + l.length := by
    intro l
    induction l with
    | nil => intro acc; rfl
    | cons x l ih => intro acc; rw [List.foldl_cons, ih, insS_len, List.length_cons]; omega
  simpa [sortS] using key l []
theorem sortS_mem (l : List α) (z : α) : z ∈ sortS lt l ↔ z ∈ l := by
  have key : ∀ (l acc : List α), z ∈ l.foldl (fun acc x => insS lt x acc) acc ↔ z ∈ acc ∨ z ∈ l := by
    intro l
    induction l with
    | nil => intro acc; simp
    | cons x l ih => intro acc; rw [List.foldl_cons, ih, insS_mem, List.mem_cons, or_comm (a := z = x), or_assoc]
  simpa [sortS] using key l []
/-- sorting by a key of the first of pairs -/
theorem sortS_map {β : Type} {lt' : β → β → Bool} {f : α → β} (hf : ∀ x y, lt' (f x) (f y) = lt x y) : ∀ l : List α, (sortS lt l).map f = sortS lt' (l.map f) := by
  have hi : ∀ (x : α) (l : List α), (insS lt x l).map f = insS lt' (f x) (l.map f) := fun x l => by
    induction l with
    | nil => rfl
    | cons y l ih =>
      simp only [insS, List.map_cons, hf]
      split <;> simp [ih]
  have key : ∀ (l acc : List α), (l.foldl (fun acc x => insS lt x acc) acc).map f = (l.map f).foldl (fun acc x => insS lt' x acc) (acc.map f) := by
    intro l
    induction l with
    | nil => intro acc; rfl
    | cons x l ih => intro acc; rw [List.foldl_cons, ih, hi, List.map_cons, List.foldl_cons]
  intro l
  exact key l []
end
end Go.Proofs.YtagfedbdakmlgaaGreatDoor.Stb

/-! StbL -/
namespace Go.Proofs.YtagfedbdakmlgaaGreatDoor
set_option linter.unusedVariables false
set_option linter.unusedSimpArgs false
open Go.Shelf Go.RowKit Go.Lib Go.Sort
/-- the bodies and the types that the stable sort of events reaches; an event has k cells -/
structure StL (P : Program) (k : Nat) : Prop where
  mixed : P.follows .mixedOrders = true
  fswapRange : P.funcs[226]? = some Tryz.f226
  frotate : P.funcs[212]? = some Tryz.f212
  finsertionSort : P.funcs[189]? = some Tryz.f189
  fsymMerge : P.funcs[190]? = some Tryz.f190
  fstable : P.funcs[152]? = some Tryz.f152
  fsort : P.funcs[106]? = some Tryz.f106
  t0 : P.underlying 0 = some (.tuple #[])
  a0 : ∀ w, (isAgg 0).run P w = .ok false w
  z0 : ∀ w, (Go.sizeOf 0).run P w = .ok 1 w
  v0 : ∀ w, (zeroValue 0).run P w = .ok (.tuple #[]) w
  t3 : P.underlying 3 = some (.int .i64)
  a3 : ∀ w, (isAgg 3).run P w = .ok false w
  z3 : ∀ w, (Go.sizeOf 3).run P w = .ok 1 w
  v3 : ∀ w, (zeroValue 3).run P w = .ok (.int .i64 0) w
  t4 : P.underlying 4 = some (.bool)
  a4 : ∀ w, (isAgg 4).run P w = .ok false w
  z4 : ∀ w, (Go.sizeOf 4).run P w = .ok 1 w
  v4 : ∀ w, (zeroValue 4).run P w = .ok (.bool false) w
  tS : P.underlying 24 = some (.slice 66)
  aS : ∀ w, (isAgg 24).run P w = .ok false w
  zS : ∀ w, (Go.sizeOf 24).run P w = .ok 1 w
  vS : ∀ w, (zeroValue 24).run P w = .ok (.slice none 0 0) w
  tF : P.underlying 132 = some (.func #[66, 66] #[3] false)
  aF : ∀ w, (isAgg 132).run P w = .ok false w
  zF : ∀ w, (Go.sizeOf 132).run P w = .ok 1 w
  vF : ∀ w, (zeroValue 132).run P w = .ok (.nilFunc) w
  tU : P.underlying 40 = some (.int .u64)
  aU : ∀ w, (isAgg 40).run P w = .ok false w
  zU : ∀ w, (Go.sizeOf 40).run P w = .ok 1 w
  vU : ∀ w, (zeroValue 40).run P w = .ok (.int .u64 0) w
  aE : ∀ w, (isAgg 66).run P w = .ok true w
  zE : ∀ w, (Go.sizeOf 66).run P w = .ok k w
section
variable {α : Type} [Inhabited α]
theorem arr_get {d : Array α} {i : Nat} (h : i < d.size) : d.toList[i]? = some d[i]! := by
  rw [Array.getElem?_toList, getElem!_pos d i h, Array.getElem?_eq_getElem h]
end
end Go.Proofs.YtagfedbdakmlgaaGreatDoor

/-! StbB -/
namespace Go.Proofs.YtagfedbdakmlgaaGreatDoor
set_option linter.unusedVariables false
set_option linter.unusedSimpArgs false
open Go.Shelf Go.RowKit Go.Lib Go.Sort
variable {P : Program} {k : Nat} {α : Type} [Inhabited α]
end Go.Proofs.YtagfedbdakmlgaaGreatDoor

/-! StbA -/
namespace Go.Proofs.YtagfedbdakmlgaaGreatDoor
set_option linter.unusedVariables false
set_option linter.unusedSimpArgs false
open Go.Shelf Go.RowKit Go.Lib Go.Sort
variable {P : Program} {k : Nat} {α : Type} [Inhabited α]
end Go.Proofs.YtagfedbdakmlgaaGreatDoor

/-! StbC -/
namespace Go.Proofs.YtagfedbdakmlgaaGreatDoor
set_option linter.unusedVariables false
set_option linter.unusedSimpArgs false
open Go.Shelf Go.RowKit Go.Lib Go.Sort
section
variable {α : Type}
end
variable {P : Program} {k : Nat} {α : Type} [Inhabited α]
end Go.Proofs.YtagfedbdakmlgaaGreatDoor

/-! StbD -/
namespace Go.Proofs.YtagfedbdakmlgaaGreatDoor
set_option linter.unusedVariables false
set_option linter.unusedSimpArgs false
open Go.Shelf Go.RowKit Go.Lib Go.Sort
variable {P : Program} {k : Nat} {α : Type} [Inhabited α]
end Go.Proofs.YtagfedbdakmlgaaGreatDoor

/-! StbE -/
namespace Go.Proofs.YtagfedbdakmlgaaGreatDoor
set_option linter.unusedVariables false
set_option linter.unusedSimpArgs false
open Go.Shelf Go.RowKit Go.Lib Go.Sort
variable {P : Program} {k : Nat} {α : Type} [Inhabited α]
end Go.Proofs.YtagfedbdakmlgaaGreatDoor

/-! SrtW -/
namespace Go.Proofs.YtagfedbdakmlgaaGreatDoor
set_option linter.unusedVariables false
set_option linter.unusedSimpArgs false
open Go.Shelf Go.RowKit Go.Lib Go.Sort
section
variable {α : Type} [Inhabited α] {enc : α → List Value} {k : Nat}
theorem flatK_list (hk : ∀ x, (enc x).length = k) (d : Array α) : (flatK enc k d).toList = d.toList.flatMap enc := by
  have hl : (d.toList.flatMap enc).length = d.size * k := by rw [flatMap_len enc k hk, Array.length_toList]
  apply List.ext_getElem?
  intro t
  by_cases ht : t < d.size * k
  · have hk0 : 0 < k := by
      cases k with
      | zero => omega
      | succ k => omega
    have hq : t / k < d.size := Nat.div_lt_of_lt_mul (by rwa [Nat.mul_comm])
    have hr : t % k < k := Nat.mod_lt _ hk0
    have h1 := flatMap_at enc k hk d.toList (t / k) d[t / k]! (t % k) (arr_get hq) hr
    rw [Nat.div_add_mod' t k] at h1
    rw [h1, arr_get (by rw [size_flatK]; exact ht), get_flatK enc k d t ht, List.getElem?_eq_getElem (by rw [hk]; exact hr), getElem!_pos _ _ (by rw [hk]; exact hr)]
  · rw [List.getElem?_eq_none (by rw [Array.length_toList, size_flatK]; omega), List.getElem?_eq_none (by omega)]
variable {w W : World} {L g n c : Nat} {T : TypeId} {l : List α}
theorem own_holds (hk : ∀ x, (enc x).length = k) (h : w.ownsRow L T k (.slice (some ⟨g, 0, none⟩) n c) n (l.flatMap enc)) (hl : l.length = n) : HoldsK enc k w g 0 l.toArray := by
  intro j hj
  rw [size_flatK] at hj
  have hj' : j < n * k := by simpa [hl] using hj
  have h1 := h.cellAt j hj'
  have h2 : (flatK enc k l.toArray).toList[j]? = some (flatK enc k l.toArray)[j]! := arr_get (by rw [size_flatK]; exact hj)
  rw [flatK_list hk] at h2
  refine ⟨by rw [Nat.zero_add, h1]; exact h2, ?_⟩
  rcases h.2 with ⟨hv, hn⟩ | ⟨g', cap, cur, hv, hg, hb, -⟩
  · cases hv
  · cases hv
    simp [World.frozen?, hb]
theorem swk_heap {m : Nat} {os : Array Obj} {cur : Array Value} {e : TypeId} {fr : Nat × Nat} (d : Array α) (hb : w.heap[g]? = some (.cells cur e fr)) :
    (sortWorldK enc k w g 0 m d os).heap[g]? = some (.cells (putCells id 0 (flatK enc k d) cur) e fr) := by
  have hg : g < w.heap.size := (Array.getElem?_eq_some_iff.1 hb).1
  unfold sortWorldK
  rw [heap_grow_old _ _ (by rw [size_putRowK]; exact hg)]
  simp [putRowK, putRow, mapBlock, Sort.ahead, Array.getElem?_modify, hb, onCells]
theorem swk_grown (h : SWK enc k w g 0 l.toArray W) : w.grownBy W (some g) := by
  obtain ⟨m, os, rfl⟩ := h
  refine ⟨rfl, rfl, rfl, by unfold sortWorldK; rw [size_grow, size_putRowK]; exact Nat.le_add_right _ _, fun q hq hne => ?_⟩
  unfold sortWorldK
  rw [heap_grow_old _ _ (by rw [size_putRowK]; exact hq)]
  have : g ≠ q := fun e => hne (by rw [e])
  simp [putRowK, putRow, mapBlock, Sort.ahead, Array.getElem?_modify, this]
theorem take_putF (cur : Array Value) (F : Array Value) (h : F.size ≤ cur.size) : (putCells id 0 F cur).toList.take F.size = F.toList := by
  apply List.ext_getElem?
  intro j
  by_cases hj : j < F.size
  · rw [List.getElem?_take_of_lt hj, Array.getElem?_toList]
    simp [putCells, hj, show j < cur.size by omega]
  · rw [List.getElem?_take_eq_none (by omega), List.getElem?_eq_none (by simp; omega)]
/-- behind the sort the same slice owns what the sort has left there -/
theorem swk_own (hk : ∀ x, (enc x).length = k) {xs : List Value} (h : w.ownsRow L T k (.slice (some ⟨g, 0, none⟩) n c) n xs) (hS : SWK enc k w g 0 l.toArray W) (hl : l.length = n) : W.ownsRow L T k (.slice (some ⟨g, 0, none⟩) n c) n (l.flatMap enc) := by
  refine ⟨by rw [flatMap_len enc k hk, hl], ?_⟩
  rcases h.2 with ⟨hv, hn⟩ | ⟨g', cap, cur, hv, hg, hb, hnc, hcm, hcs, ht⟩
  · cases hv
  · cases hv
    obtain ⟨m, os, rfl⟩ := hS
    refine .inr ⟨g, c, _, rfl, hg, swk_heap _ hb, hnc, hcm, by simp [putCells, hcs], ?_⟩
    have h1 := take_putF cur (flatK enc k l.toArray) (by rw [size_flatK]; simp [hl, hcs]; exact Nat.mul_le_mul_right _ hnc)
    rw [flatK_list hk, size_flatK] at h1
    simpa [hl] using h1
end
theorem insS_congr {α : Type} {lt lt' : α → α → Bool} (x : α) : ∀ (l : List α), (∀ y ∈ l, lt x y = lt' x y ∧ lt y x = lt' y x) → Stb.insS lt x l = Stb.insS lt' x l
  | [], _ => rfl
  | y :: l, h => by
    have h1 := h y (by simp)
    unfold Stb.insS
    rw [h1.1, insS_congr x l (fun z hz => h z (by simp [hz]))]
theorem sortS_congr {α : Type} {lt lt' : α → α → Bool} {l : List α} (h : ∀ p q, p ∈ l → q ∈ l → lt p q = lt' p q) : Stb.sortS lt l = Stb.sortS lt' l := by
  have key : ∀ (l acc : List α), (∀ p q, (p ∈ l ∨ p ∈ acc) → (q ∈ l ∨ q ∈ acc) → lt p q = lt' p q) → l.foldl (fun acc x => Stb.insS lt x acc) acc = l.foldl (fun acc x => Stb.insS lt' x acc) acc := by
    intro l
    induction l with
    | nil => intro acc _; rfl
    | cons x l ih =>
      intro acc h
      simp only [List.foldl_cons]
      rw [insS_congr x acc (fun y hy => ⟨h x y (.inl (by simp)) (.inr hy), h y x (.inr hy) (.inl (by simp))⟩)]
      refine ih _ (fun p q hp hq => h p q ?_ ?_)
      · rcases hp with hp | hp
        · exact .inl (by simp [hp])
        · rcases (Stb.insS_mem x acc p).1 hp with rfl | hp
          · exact .inl (by simp)
          · exact .inr hp
      · rcases hq with hq | hq
        · exact .inl (by simp [hq])
        · rcases (Stb.insS_mem x acc q).1 hq with rfl | hq
          · exact .inl (by simp)
          · exact .inr hq
  exact key l [] (fun p q hp hq => h p q (by simpa using hp) (by simpa using hq))
instance : Inhabited EH := ⟨⟨0, 0, 0, ⟨#[]⟩, 0, ⟨#[]⟩, none, 0, 0⟩⟩
def cmpH (x y : EH) : Int := orI (cmpI x.inn y.inn) (cmpI x.id y.id)
def ltH (x y : EH) : Bool := decide (x.inn < y.inn ∨ x.inn = y.inn ∧ x.id < y.id)
theorem lessB_sw : Stb.SW lessB := ⟨fun x y h => by unfold lessB at *; simp only [decide_eq_true_eq, decide_eq_false_iff_not] at *; omega, fun x y z h k => by unfold lessB at *; simp only [decide_eq_false_iff_not] at *; omega⟩
/-- what Sort comes to -/
def srtE (l : List Ev) : List Ev := Stb.sortS lessB l
theorem EvsOwn.sorted {w W : World} {L g n c : Nat} {l : List Ev} {hs hs' : List EH} (h1 : w.ownsRow L 66 7 (.slice (some ⟨g, 0, none⟩) n c) n (hs.flatMap EH.vals)) (h2 : hs.length = n) (h3 : l.length = n) (h4 : ∀ (i : Nat) (h : EH) (e : Ev), hs[i]? = some h → l[i]? = some e → EGood w L h e)
    (hS : SWK EH.vals 7 w g 0 hs'.toArray W) (hh : hs' = Stb.sortS ltH hs) : EvsOwn W L (.slice (some ⟨g, 0, none⟩) n c) n (srtE l) := by
  have hgr := swk_grown hS
  have hty := own_typed h1
  have k1 : KB 87 w W := KB.grown hgr hty (by decide)
  have k2 : KB 84 w W := KB.grown hgr hty (by decide)
  have hl' : hs'.length = n := by rw [hh, Stb.sortS_len, h2]
  refine ⟨hs', swk_own EH.len h1 hS hl', hl', by unfold srtE; rw [Stb.sortS_len, h3], fun i x e hx he => ?_⟩
  -- pairs
  have hz1 : (hs.zip l).map Prod.fst = hs := List.map_fst_zip (by omega)
  have hz2 : (hs.zip l).map Prod.snd = l := List.map_snd_zip (by omega)
  have hg : ∀ p ∈ hs.zip l, EGood w L p.1 p.2 := by
    intro p hp
    obtain ⟨j, hj⟩ := List.mem_iff_getElem?.1 hp
    have hj1 : ((hs.zip l).map Prod.fst)[j]? = some p.1 := by rw [List.getElem?_map, hj]; rfl
    have hj2 : ((hs.zip l).map Prod.snd)[j]? = some p.2 := by rw [List.getElem?_map, hj]; rfl
    rw [hz1] at hj1
    rw [hz2] at hj2
    exact h4 j _ _ hj1 hj2
  have hs1 : (Stb.sortS (fun p q : EH × Ev => ltH p.1 q.1) (hs.zip l)).map Prod.fst = hs' := by rw [Stb.sortS_map (lt' := ltH) (fun x y => rfl), hz1, hh]
  have hs2 : Stb.sortS (fun p q : EH × Ev => ltH p.1 q.1) (hs.zip l) = Stb.sortS (fun p q : EH × Ev => lessB p.2 q.2) (hs.zip l) := by
    refine sortS_congr (fun p q hp hq => ?_)
    have e1 := (hg p hp).1
    have e2 := (hg q hq).1
    unfold ltH lessB
    rw [e1, e2]
    rfl
  have hs3 : (Stb.sortS (fun p q : EH × Ev => ltH p.1 q.1) (hs.zip l)).map Prod.snd = srtE l := by rw [hs2, Stb.sortS_map (lt' := lessB) (fun x y => rfl), hz2]; rfl
  rw [← hs1, List.getElem?_map] at hx
  rw [← hs3, List.getElem?_map] at he
  obtain ⟨p, hp, rfl⟩ := Option.map_eq_some_iff.1 hx
  rw [hp] at he
  obtain rfl := Option.some.inj he
  exact (hg p ((Stb.sortS_mem _ _).1 (List.mem_of_getElem? hp))).kb k1 k2
end Go.Proofs.YtagfedbdakmlgaaGreatDoor

/-! SortD -/
namespace Go.Proofs.YtagfedbdakmlgaaGreatDoor
set_option linter.unusedVariables false
set_option linter.unusedSimpArgs false
open Go.RowKit
theorem EH.ones (x : EH) : ∀ v ∈ x.vals, v.oneCell' = true := by
  intro v hv
  simp only [EH.vals, List.mem_cons, List.not_mem_nil, or_false] at hv
  rcases hv with rfl | rfl | rfl | rfl | rfl | rfl | rfl <;> rfl
/-- events are sorted into memory of one's own -/
def SortPost (l : List Ev) (n : Nat) (w : World) (en : Ending) (w' : World) : Prop := ∃ v, en = .returned v ∧ EvsOwn w' w.heap.size v n (srtE l) ∧ Ext w w'
def SortLoop (l : List Ev) (n : Nat) (w : World) (v i : Value) (wr : World) : Prop := ∃ k : Nat, k ≤ n ∧ i = .int .i64 k ∧ Ext w wr ∧ EvsOwn wr w.heap.size v k (l.take k)
theorem SortLoop.step {w wr w2 : World} {k : Nat} {l : List Ev} {v v' : Value} {e : Ev} {hs : List EH} {A' : Option Addr} {n' c' : Nat} (hx : Ext w wr) (r : EvsOwn wr w.heap.size v k (l.take k)) (he : l[k]? = some e) (h1 : wr.ownsRow w.heap.size 66 7 v k (hs.flatMap EH.vals))
    (hg : EGood wr w.heap.size (EH.of e A' n' c') e) (hgr : wr.grownBy w2 v.ownBlock) (hO : w2.ownsRow w.heap.size 66 7 v' (k + 1) (hs.flatMap EH.vals ++ (e.cells A' n' c').toList)) : Ext w w2 ∧ EvsOwn w2 w.heap.size v' (k + 1) (l.take (k + 1)) := by
  refine ⟨hx.grown hgr (fun q hq => own_lt h1 q hq), ?_⟩
  rw [take_snoc' l k e he]
  exact r.push h1 hg hgr hO
end Go.Proofs.YtagfedbdakmlgaaGreatDoor

/-! RemP -/
namespace Go.Proofs.YtagfedbdakmlgaaGreatDoor
set_option linter.unusedVariables false
set_option linter.unusedSimpArgs false
open Go.RowKit
def Com.lose (id : Int) (c : Com) : Com := if c.ev = id then ⟨c.id, c.ev, 0, 0, c.author, c.text, c.done, true⟩ else c
def Doc.cutE (d : Doc) (k : Nat) : Doc := ⟨d.title, d.lang, d.rate, d.drop, d.last, d.regs, d.evs.take k ++ d.evs.drop (k + 1), d.coms⟩
/-- what Remove comes to -/
def Doc.remX (d : Doc) (id : Int) : DE :=
  if d.err ≠ 0 then (Doc.zero, d.err) else match findE d.evs id with
    | none => (Doc.zero, 6)
    | some k => ((d.cutE k).withComs (d.coms.map (Com.lose id)), 0)
section
variable {d : Doc} {id : Int} {k : Nat}
end
end Go.Proofs.YtagfedbdakmlgaaGreatDoor

/-! RetV -/
namespace Go.Proofs.YtagfedbdakmlgaaGreatDoor
set_option linter.unusedVariables false
set_option linter.unusedSimpArgs false
open Go.RowKit
section
variable {d : Doc} {b m : Int} {drop : Bool}
/-- what a comment that is not lost must have -/
def Com.Good (c : Com) (evs : List Ev) : Prop := (∃ k e, findE evs c.ev = some k ∧ evs[k]? = some e ∧ 0 ≤ c.fr ∧ c.fr < c.til ∧ c.til ≤ e.len) ∧ nameB c.author = true ∧ vld c.text = true ∧ c.text.toList.isEmpty = false ∧ c.text.size ≤ 400
end
end Go.Proofs.YtagfedbdakmlgaaGreatDoor

/-! RegionInv -/
namespace Go.Proofs.YtagfedbdakmlgaaGreatDoor
set_option linter.unusedVariables false
set_option linter.unusedSimpArgs false
open Go.RowKit
/-- what the region 'a, b := Clone(e), Clone(e)' keeps, whatever has been done of it -/
def C2Inv (mk : Value → Value → Value → Value → Value → Value → Act) (e : Ev) (A : Option Addr) (n c : Nat) (W : World) (l : Array Bool) (a : Act) (w : World) : Prop :=
  l.size = 8 ∧ Ext W w ∧ ∃ v1 v2 v3 v4 va vb : Value, a = mk v1 v2 v3 v4 va vb ∧ (l.getD 0 false = true → v1 = .agg (e.cells A n c)) ∧ (l.getD 2 false = true → v3 = .agg (e.cells A n c)) ∧
    (l.getD 1 false = true → ∃ A1 c1, v2 = .agg (e.cells A1 n c1) ∧ n ≤ c1 ∧ RowsFresh w W.heap.size A1 n e.rows) ∧ (l.getD 3 false = true → ∃ A1 c1, v4 = .agg (e.cells A1 n c1) ∧ n ≤ c1 ∧ RowsFresh w W.heap.size A1 n e.rows) ∧
    (l.getD 4 false = true → ∃ g cs, va = .pointer (some ⟨g, 0, none⟩) ∧ W.heap.size ≤ g ∧ Blk w g 66 cs ∧ cs.size = 7 ∧ (l.getD 6 false = true → v2 = .agg cs)) ∧
    (l.getD 5 false = true → ∃ g cs, vb = .pointer (some ⟨g, 0, none⟩) ∧ W.heap.size ≤ g ∧ Blk w g 66 cs ∧ cs.size = 7 ∧ (l.getD 7 false = true → v4 = .agg cs)) ∧
    (l.getD 4 false = true → l.getD 5 false = true → va ≠ vb) ∧ (l.getD 6 false = true → l.getD 1 false = true) ∧ (l.getD 7 false = true → l.getD 3 false = true) ∧ (l.getD 6 false = true → l.getD 4 false = true) ∧ (l.getD 7 false = true → l.getD 5 false = true)
/-- a frame with six slots written -/
def put6 (a : Act) (x1 x2 x3 x4 sa sb : Nat) (v1 v2 v3 v4 va vb : Value) : Act :=
  { a with tmps := (((((a.tmps.setIfInBounds x1 v1).setIfInBounds x2 v2).setIfInBounds x3 v3).setIfInBounds x4 v4).setIfInBounds sa va).setIfInBounds sb vb }
end Go.Proofs.YtagfedbdakmlgaaGreatDoor
