/- Laid together: The walk of captionerlaw45.awake. DERIVED: THE SHELF's CONTRACTS AT THIS DUMP, IN PLAIN WORDS (tools/lay-plain.mjs out of 'TryzLst.lean', which tools/lay-shelf.mjs wrote): THE SAME DECLARATIONS UNDER THE SAME NAMES: 'import', 'namespace', 'open', 'def', 'theorem' AND NOTHING ELSE: no command of the shelf's: FOR A HAND-IN. Each laying: the table of numbers ('.._ren') and one theorem, a field a fact of the dump's own or the kernel's comparison; each contract: ONE APPLICATION. Stable sorting, plainly. A region that draws its order, walked once in the order of the text, where its calls may make memory: the class of the worlds that are greater than one. More memory and no fewer draws: what the sort asks of its comparison; a drawn region with calls in that class. The stable sort of events: what its walks take of the program; rows as arrays and as lists. The stable sort of events: the insertion. The stable sort of events: ranges exchanged, blocks turned. The stable sort of events: the merge where one side is one. The stable sort of events: the symmetric merge. The stable sort of events: the merge at whatever length, the blocks, SortStableFunc. The walks of strings.Builder's copyCheck and WriteString (the shelf's contracts do not fit this translation: its copyCheck bears a refused statement), after the library's own texts. The walks of package region (from, Default, Check, usable, Find, Place). Go's == on the structs of package api, as the equality of plain data. The walks of package style (Valid, alike, Len, Plain). The walks of package style (Plain, Check). The walk of style.Check. The walks of event.row, event.spans, event.KindName. The walks of package region (usable, Find, Place). The walk of region.Place. The walk of region.Find. Events in memory, and the walks of event.lens, Frames, Len. The walks of event.Frames, Len, Plain. The walks of event.Spots and event.Check. The walk of event.Check. The walks of cmp.Compare, cmp.Or, event.Less and of the reference's Less. Documents: in memory, and their first error, plainly. -/
import Derived.Test.YtablhmobekmflaaGreatDoorPk06
import Derived.Shelf.SlGeneric
import Derived.Shelf.SlSortCmp.KitK
import Derived.Ground.SlsfProg
import Derived.Test.YtablhmobekmflaaGreatDoorProg
import Derived.Test.YtablhmobekmflaaGreatDoorRows
import Derived.Test.YtablhmobekmflaaGreatDoorPk01
import Derived.Sort.Grow
import Derived.Sort.WalkB2
import Derived.Sort.WalkB12
import Derived.Deep.LoopGhost
import Derived.Test.YtablhmobekmflaaGreatDoorShelf
import Derived.Lib.Builder
import Derived.Lib.AppendStr
import Derived.Test.YtablhmobekmflaaGreatDoorPk02
import Derived.Test.YtablhmobekmflaaGreatDoorPk03
import Derived.Lib.Join

/-! Awake45 -/
namespace Go.Proofs.YtablhmobekmflaaGreatDoor
set_option linter.unusedVariables false
set_option linter.unusedSimpArgs false
open Go.RowKit
def cuts14 : Array Value := #[.int .i64 1, .string ⟨#[65]⟩, .int .i64 250, .int .i64 0, .int .i64 100, .int .i64 1, .int .i64 1, .int .i64 2, .string ⟨#[66]⟩, .int .i64 0, .int .i64 100, .int .i64 110, .int .i64 1, .int .i64 2]
theorem e0_at (w : World) : CutsAt (w.alloc (.cells cuts14 91)) (some ⟨w.heap.size, 0, none⟩) 2 e0.cuts := by
  have hB := Blk.new w 91 cuts14
  refine ⟨rfl, fun _ => ⟨w.heap.size, 0, rfl, fun i x hx => ?_⟩⟩
  have hc := fun o => hB.cell o
  match i, hx with
  | 0, hx =>
    cases hx
    intro j u hu
    rw [hc]
    match j, hu with
    | 0, hu => exact hu
    | 1, hu => exact hu
    | 2, hu => exact hu
    | 3, hu => exact hu
    | 4, hu => exact hu
    | 5, hu => exact hu
    | 6, hu => exact hu
    | j + 7, hu => simp [Cut.vals] at hu
  | 1, hx =>
    cases hx
    intro j u hu
    rw [hc]
    match j, hu with
    | 0, hu => exact hu
    | 1, hu => exact hu
    | 2, hu => exact hu
    | 3, hu => exact hu
    | 4, hu => exact hu
    | 5, hu => exact hu
    | 6, hu => exact hu
    | j + 7, hu => simp [Cut.vals] at hu
  | i + 2, hx => simp [e0] at hx
set_option maxRecDepth 100000 in
set_option maxHeartbeats 4000000 in
theorem awake_any (w : World) (hE : Env w) : Calls Tryz.prog 11 #[] w fun en w' => en = .returned (.bool true) ∧ Ext w w' := by
  have HX0 := Lib.hid ((Ext.refl w).alloc (.cells cuts14 91))
  have HC := Lib.hid (e0_at w)
  have HE := Lib.hid hE
  clear hE
  have HAt := Lib.hid (fun t w' (hx : Ext (w.alloc (.cells cuts14 91)) w') => At_any e0 (some ⟨w.heap.size, 0, none⟩) 2 2 t w' (HE.out.ext (HX0.out.trans hx)) (HC.out.ext hx) (by decide) e0_edlok)
  have HSw := Lib.hid (fun w' (hx : Ext (w.alloc (.cells cuts14 91)) w') => Swap_pre e0 (some ⟨w.heap.size, 0, none⟩) 2 2 ⟨#[65]⟩ ⟨#[66]⟩ w' (HE.out.ext (HX0.out.trans hx)) (HC.out.ext hx) (by decide) e0_edlok (by rw [e0_swap]; decide))
  have HB1 := Lib.hid (Blk.new' (w := w.alloc (.cells cuts14 91)) (g := w.heap.size + 1) (t := 28) (cs := edlZero) (by simp))
  have HX1 := Lib.hid ((Ext.refl (w.alloc (.cells cuts14 91))).alloc (.cells edlZero 28))
  have A99 := Lib.hid e0_99
  have A109 := Lib.hid e0_109
  have A110 := Lib.hid e0_110
  have HSp := Lib.hid e0_swap
  unfold atVal at HAt
  unfold edlZero at HB1 HX1 HSw
  unfold cuts14 at *
  go_enter Tryz.func11, Tryz.ntmps11
  go_wp2_with (first | (refine wpList_storeB rfl 28 (.tmp 1) (.tmp 17) rfl (w.heap.size + 1) 28 _ _ (by exact rfl) (by exact rfl) (by exact HB1.out) (by exact rfl) (by exact size_list) (by simp [Value.oneCell']) ?_) | (refine wpList_loadB rfl 28 (.tmp 1) rfl (w.heap.size + 1) 28 _ _ (by exact rfl) (by exact HB1.out.put _) Tryz.underlying28 rfl (by exact size_list) ?_))
  have HX2 := Lib.hid (HX1.out.put (g := w.heap.size + 1) (by simp) 28 #[.string ⟨#[]⟩, .int .u8 3, .bool false, .slice (some ⟨w.heap.size, 0, none⟩) 2 2])
  have HB2 := Lib.hid (HB1.out.put #[.string ⟨#[]⟩, .int .u8 3, .bool false, .slice (some ⟨w.heap.size, 0, none⟩) 2 2])
  refine (HAt.out 99 _ HX2.out).mono ?_
  rw [A99.out]
  rintro en w3 ⟨rfl, hx3⟩
  have HX3 := Lib.hid (HX2.out.trans hx3)
  have HB3 := Lib.hid (HB2.out.ext hx3)
  clear hx3 HX2 HB2 HB1 HX1
  have HZ3 := Lib.hid (Blk.new w3 80 #[.string ⟨#[]⟩, .int .i64 0])
  go_wp2_with (first | (refine wpList_storeB rfl 80 (.tmp 2) (.tmp 21) rfl w3.heap.size 80 _ _ (by exact rfl) (by exact rfl) (by exact HZ3.out) (by exact rfl) (by exact size_src) (by simp [Value.oneCell']) ?_) | (refine wpList_loadB rfl 28 (.tmp 1) rfl (w.heap.size + 1) 28 _ _ (by exact rfl) (by exact (HB3.out.alloc _).put_other (by have := HB3.out.lt; omega) _) Tryz.underlying28 rfl (by exact size_list) ?_))
  have hg3 := HB3.out.lt
  have HX4 := Lib.hid ((HX3.out.alloc (.cells #[.string ⟨#[]⟩, .int .i64 0] 80)).put (g := w3.heap.size) HX3.out.size 80 #[.string ⟨#[65]⟩, .int .i64 349])
  have HB4 := Lib.hid ((HB3.out.alloc (.cells #[.string ⟨#[]⟩, .int .i64 0] 80)).put_other (g' := w3.heap.size) (t' := 80) (by omega) #[.string ⟨#[65]⟩, .int .i64 349])
  have HS4 := Lib.hid (HZ3.out.put #[.string ⟨#[65]⟩, .int .i64 349])
  refine (HAt.out 109 _ HX4.out).mono ?_
  rw [A109.out]
  rintro en w5 ⟨rfl, hx5⟩
  have HX5 := Lib.hid (HX4.out.trans hx5)
  have HB5 := Lib.hid (HB4.out.ext hx5)
  have HS5 := Lib.hid (HS4.out.ext hx5)
  clear hx5 HX4 HB4 HS4 HX3 HB3 HZ3
  have hg5 := HB5.out.lt
  have hg5' := HS5.out.lt
  have HZ5 := Lib.hid (Blk.new w5 80 #[.string ⟨#[]⟩, .int .i64 0])
  go_wp2_with (first | (refine wpList_storeB rfl 80 (.tmp 4) (.tmp 26) rfl w5.heap.size 80 _ _ (by exact rfl) (by exact rfl) (by exact HZ5.out) (by exact rfl) (by exact size_src) (by simp [Value.oneCell']) ?_) | (refine wpList_loadB rfl 28 (.tmp 1) rfl (w.heap.size + 1) 28 _ _ (by exact rfl) (by exact (HB5.out.alloc _).put_other (by omega) _) Tryz.underlying28 rfl (by exact size_list) ?_))
  have HX6 := Lib.hid ((HX5.out.alloc (.cells #[.string ⟨#[]⟩, .int .i64 0] 80)).put (g := w5.heap.size) HX5.out.size 80 #[.string ⟨#[66]⟩, .int .i64 4])
  have HB6 := Lib.hid ((HB5.out.alloc (.cells #[.string ⟨#[]⟩, .int .i64 0] 80)).put_other (g' := w5.heap.size) (t' := 80) (by omega) #[.string ⟨#[66]⟩, .int .i64 4])
  have HS6 := Lib.hid ((HS5.out.alloc (.cells #[.string ⟨#[]⟩, .int .i64 0] 80)).put_other (g' := w5.heap.size) (t' := 80) (by omega) #[.string ⟨#[66]⟩, .int .i64 4])
  have HT6 := Lib.hid (HZ5.out.put #[.string ⟨#[66]⟩, .int .i64 4])
  refine (HAt.out 110 _ HX6.out).mono ?_
  rw [A110.out]
  rintro en w7 ⟨rfl, hx7⟩
  have HX7 := Lib.hid (HX6.out.trans hx7)
  have HB7 := Lib.hid (HB6.out.ext hx7)
  have HS7 := Lib.hid (HS6.out.ext hx7)
  have HT7 := Lib.hid (HT6.out.ext hx7)
  clear hx7 HX6 HB6 HS6 HT6 HX5 HB5 HS5 HZ5
  have hg7 := HB7.out.lt
  have hg7' := HS7.out.lt
  have hg7'' := HT7.out.lt
  have HZ7 := Lib.hid (Blk.new w7 80 #[.string ⟨#[]⟩, .int .i64 0])
  go_wp2_with (first | (refine wpList_storeB rfl 80 (.tmp 6) (.tmp 31) rfl w7.heap.size 80 _ _ (by exact rfl) (by exact rfl) (by exact HZ7.out) (by exact rfl) (by exact size_src) (by simp [Value.oneCell']) ?_) | (refine wpList_loadB rfl 28 (.tmp 1) rfl (w.heap.size + 1) 28 _ _ (by exact rfl) (by exact (HB7.out.alloc _).put_other (by omega) _) Tryz.underlying28 rfl (by exact size_list) ?_))
  have HX8 := Lib.hid ((HX7.out.alloc (.cells #[.string ⟨#[]⟩, .int .i64 0] 80)).put (g := w7.heap.size) HX7.out.size 80 #[.string ⟨#[]⟩, .int .i64 0])
  have HS8 := Lib.hid ((HS7.out.alloc (.cells #[.string ⟨#[]⟩, .int .i64 0] 80)).put_other (g' := w7.heap.size) (t' := 80) (by omega) #[.string ⟨#[]⟩, .int .i64 0])
  have HT8 := Lib.hid ((HT7.out.alloc (.cells #[.string ⟨#[]⟩, .int .i64 0] 80)).put_other (g' := w7.heap.size) (t' := 80) (by omega) #[.string ⟨#[]⟩, .int .i64 0])
  refine (HSw.out _ HX8.out).mono ?_
  rw [HSp.out]
  rintro en w9 ⟨rfl, hx9⟩
  have HX9 := Lib.hid (HX8.out.trans hx9)
  have HS9 := Lib.hid (HS8.out.ext hx9)
  have HT9 := Lib.hid (HT8.out.ext hx9)
  clear hx9 HX8 HS8 HT8 HX7 HB7 HS7 HT7 HZ7
  have hg9 := HS9.out.lt
  have hg9' := HT9.out.lt
  have HZ9 := Lib.hid (Blk.new w9 28 #[.string ⟨#[]⟩, .int .u8 0, .bool false, .slice none 0 0])
  have HXa := Lib.hid ((HX9.out.alloc (.cells #[.string ⟨#[]⟩, .int .u8 0, .bool false, .slice none 0 0] 28)).put (g := w9.heap.size) HX9.out.size 28 #[.string ⟨#[]⟩, .int .u8 0, .bool false, .slice none 0 0])
  have HSa := Lib.hid ((HS9.out.alloc (.cells #[.string ⟨#[]⟩, .int .u8 0, .bool false, .slice none 0 0] 28)).put_other (g' := w9.heap.size) (t' := 28) (by omega) #[.string ⟨#[]⟩, .int .u8 0, .bool false, .slice none 0 0])
  have HTa := Lib.hid ((HT9.out.alloc (.cells #[.string ⟨#[]⟩, .int .u8 0, .bool false, .slice none 0 0] 28)).put_other (g' := w9.heap.size) (t' := 28) (by omega) #[.string ⟨#[]⟩, .int .u8 0, .bool false, .slice none 0 0])
  have hcs := fun o => HSa.out.cell o
  have hct := fun o => HTa.out.cell o
  go_wp2_with (first | (refine wpList_storeB rfl 28 (.tmp 8) (.tmp 36) rfl w9.heap.size 28 _ _ (by exact rfl) (by exact rfl) (by exact HZ9.out) (by exact rfl) (by exact size_list) (by simp [Value.oneCell']) ?_) | (refine wpList_loadB rfl 80 (.tmp 2) rfl w3.heap.size 80 _ _ (by exact rfl) (by exact HSa.out) Tryz.underlying80 rfl (by exact size_src) ?_) | (refine wpList_loadB rfl 80 (.tmp 4) rfl w5.heap.size 80 _ _ (by exact rfl) (by exact HTa.out) Tryz.underlying80 rfl (by exact size_src) ?_))
  go_ret
  exact ⟨rfl, HX0.out.trans HXa.out⟩
end Go.Proofs.YtablhmobekmflaaGreatDoor

/-! LayLst -/
namespace Go.Proofs
open Go.Shelf
def Tryz.srtSp_ren : Go.Shelf.Ren := ⟨fun | 6 => 214 | 15 => 168 | 14 => 257 | 28 => 224 | 29 => 225 | 20 => 275 | 21 => 276 | 22 => 277 | 23 => 278 | 24 => 279 | 25 => 280 | 26 => 281 | 27 => 282 | 46 => 291 | 47 => 259 | 48 => 260 | 49 => 292 | 50 => 293 | 57 => 296 | n => n, fun | 22 => 35 | 24 => 60 | 25 => 226 | 3 => 3 | 39 => 233 | 0 => 0 | 53 => 273 | 55 => 192 | 4 => 4 | 46 => 267 | 45 => 266 | 50 => 135 | 5 => 5 | 9 => 9 | 66 => 294 | 70 => 298 | 76 => 314 | 77 => 154 | n => n, fun | n => n⟩
theorem Tryz.srtSp : Go.Proofs.SlLaysF0.n6 Tryz.prog Tryz.srtSp_ren := {
  mixed := by kernel_rfl
  f6 := ⟨Tryz.f214.name, by decide, Tryz.func214.trans (congrArg some (by kernel_rfl))⟩
  f14 := ⟨Tryz.f257.name, by decide, Tryz.func257.trans (congrArg some (by kernel_rfl))⟩
  f15 := Tryz.func168.trans (congrArg some (by kernel_rfl))
  f20 := ⟨Tryz.f275.name, by decide, Tryz.func275.trans (congrArg some (by kernel_rfl))⟩
  f21 := ⟨Tryz.f276.name, by decide, Tryz.func276.trans (congrArg some (by kernel_rfl))⟩
  f22 := ⟨Tryz.f277.name, by decide, Tryz.func277.trans (congrArg some (by kernel_rfl))⟩
  f23 := ⟨Tryz.f278.name, by decide, Tryz.func278.trans (congrArg some (by kernel_rfl))⟩
  f24 := ⟨Tryz.f279.name, by decide, Tryz.func279.trans (congrArg some (by kernel_rfl))⟩
  f25 := ⟨Tryz.f280.name, by decide, Tryz.func280.trans (congrArg some (by kernel_rfl))⟩
  f26 := ⟨Tryz.f281.name, by decide, Tryz.func281.trans (congrArg some (by kernel_rfl))⟩
  f27 := ⟨Tryz.f282.name, by decide, Tryz.func282.trans (congrArg some (by kernel_rfl))⟩
  f28 := Tryz.func224.trans (congrArg some (by kernel_rfl))
  f29 := Tryz.func225.trans (congrArg some (by kernel_rfl))
  f46 := ⟨Tryz.f291.name, by decide, Tryz.func291.trans (congrArg some (by kernel_rfl))⟩
  f47 := Tryz.func259.trans (congrArg some (by kernel_rfl))
  f48 := Tryz.func260.trans (congrArg some (by kernel_rfl))
  f49 := ⟨Tryz.f292.name, by decide, Tryz.func292.trans (congrArg some (by kernel_rfl))⟩
  f50 := ⟨Tryz.f293.name, by decide, Tryz.func293.trans (congrArg some (by kernel_rfl))⟩
  f57 := ⟨Tryz.f296.name, by decide, Tryz.func296.trans (congrArg some (by kernel_rfl))⟩
  t0 := Tryz.underlying0
  a0 := Tryz.isAgg0
  z0 := Tryz.sizeOf0
  v0 := Tryz.zeroValue0
  t3 := Tryz.underlying3
  a3 := Tryz.isAgg3
  z3 := Tryz.sizeOf3
  v3 := Tryz.zeroValue3
  t4 := Tryz.underlying4
  a4 := Tryz.isAgg4
  z4 := Tryz.sizeOf4
  v4 := Tryz.zeroValue4
  t5 := Tryz.underlying5
  a5 := Tryz.isAgg5
  z5 := Tryz.sizeOf5
  v5 := Tryz.zeroValue5
  t9 := Tryz.underlying9
  a9 := Tryz.isAgg9
  z9 := Tryz.sizeOf9
  v9 := Tryz.zeroValue9
  t22 := Tryz.underlying35
  a22 := Tryz.isAgg35
  z22 := Tryz.sizeOf35
  v22 := Tryz.zeroValue35
  t25 := Tryz.underlying226
  a25 := Tryz.isAgg226
  z25 := Tryz.sizeOf226
  v25 := Tryz.zeroValue226
  t39 := Tryz.underlying233
  a39 := Tryz.isAgg233
  z39 := Tryz.sizeOf233
  v39 := Tryz.zeroValue233
  t45 := Tryz.underlying266
  a45 := Tryz.isAgg266
  z45 := Tryz.sizeOf266
  v45 := Tryz.zeroValue266
  t46 := Tryz.underlying267
  a46 := Tryz.isAgg267
  z46 := Tryz.sizeOf267
  v46 := Tryz.zeroValue267
  t50 := Tryz.underlying135
  a50 := Tryz.isAgg135
  z50 := Tryz.sizeOf135
  v50 := Tryz.zeroValue135
  t53 := Tryz.underlying273
  a53 := Tryz.isAgg273
  z53 := Tryz.sizeOf273
  v53 := Tryz.zeroValue273
  t55 := Tryz.underlying192
  a55 := Tryz.isAgg192
  z55 := Tryz.sizeOf192
  v55 := Tryz.zeroValue192
  t66 := Tryz.underlying294
  a66 := Tryz.isAgg294
  z66 := Tryz.sizeOf294
  v66 := Tryz.zeroValue294
  t70 := Tryz.underlying298
  a70 := Tryz.isAgg298
  z70 := Tryz.sizeOf298
  v70 := Tryz.zeroValue298
  t76 := Tryz.underlying314
  a76 := Tryz.isAgg314
  z76 := Tryz.sizeOf314
  v76 := Tryz.zeroValue314
  t77 := Tryz.underlying154
  a77 := Tryz.isAgg154
  z77 := Tryz.sizeOf154
  v77 := Tryz.zeroValue154 }
def Tryz.srtReg_ren : Go.Shelf.Ren := ⟨fun | 6 => 103 | 15 => 168 | 14 => 167 | 28 => 224 | 29 => 225 | 20 => 216 | 21 => 217 | 22 => 218 | 23 => 219 | 24 => 220 | 25 => 221 | 26 => 222 | 27 => 223 | 46 => 258 | 47 => 259 | 48 => 260 | 49 => 261 | 50 => 262 | 57 => 283 | n => n, fun | 22 => 48 | 24 => 105 | 25 => 178 | 3 => 3 | 39 => 233 | 0 => 0 | 53 => 273 | 55 => 192 | 4 => 4 | 46 => 267 | 45 => 266 | 50 => 135 | 5 => 5 | 9 => 9 | 66 => 294 | 70 => 298 | 76 => 314 | 77 => 154 | n => n, fun | n => n⟩
end Go.Proofs

/-! SortP -/
namespace Go.Proofs.YtablhmobekmflaaGreatDoor.Stb
set_option linter.unusedVariables false
set_option linter.unusedSimpArgs false
section
variable {α : Type}
/-- a strict weak order -/
structure SW (lt : α → α → Bool) : Prop where
  asym : ∀ x y, lt x y = true → lt y x = false
  trans : ∀ x y z, lt y x = false → lt z y = false → lt z x = false
def eqv (lt : α → α → Bool) (x y : α) : Bool := !lt x y && !lt y x
/-- two places exchanged -/
def swp (l : List α) (i j : Nat) : List α := match l[i]?, l[j]? with
  | some x, some y => (l.set i y).set j x
  | _, _ => l
theorem swp_at {l : List α} {i j : Nat} (hi : i < l.length) (hj : j < l.length) (p : Nat) : (swp l i j)[p]? = if p = j then l[i]? else if p = i then l[j]? else l[p]? := by
  unfold swp
  rw [List.getElem?_eq_getElem hi, List.getElem?_eq_getElem hj]
  simp only
  rw [List.getElem?_set, List.getElem?_set]
  by_cases h1 : p = j
  · subst h1; simp [hj]
  · rw [if_neg (Ne.symm h1), if_neg h1]
    by_cases h2 : p = i
    · subst h2; simp [hi]
    · rw [if_neg (Ne.symm h2), if_neg h2]
/-- the blocks [a, m) and [m, b) exchanged -/
def rot (l : List α) (a m b : Nat) : List α := l.take a ++ ((l.take b).drop m ++ ((l.take m).drop a ++ l.drop b))
theorem rot_len {l : List α} {a m b : Nat} (h1 : a ≤ m) (h2 : m ≤ b) (h3 : b ≤ l.length) : (rot l a m b).length = l.length := by
  unfold rot; simp only [List.length_append, List.length_take, List.length_drop]; omega
theorem rot_at {l : List α} {a m b : Nat} (h1 : a ≤ m) (h2 : m ≤ b) (h3 : b ≤ l.length) (p : Nat) :
    (rot l a m b)[p]? = if p < a then l[p]? else if p < a + (b - m) then l[p + (m - a)]? else if p < b then l[p - (b - m)]? else l[p]? := by
  unfold rot
  simp only [List.getElem?_append, List.length_take, List.length_drop, List.getElem?_take, List.getElem?_drop]
  by_cases c1 : p < a
  · rw [if_pos (by omega), if_pos c1, if_pos c1]
  rw [if_neg (by omega), if_neg c1]
  by_cases c2 : p < a + (b - m)
  · rw [if_pos (by omega), if_pos (by omega), if_pos c2]; congr 1; omega
  rw [if_neg (by omega), if_neg c2]
  by_cases c3 : p < b
  · rw [if_pos (by omega), if_pos (by omega), if_pos c3]; congr 1; omega
  · rw [if_neg (by omega), if_neg c3]; congr 1; omega
/-- the ranges of n from a and from b exchanged -/
def swr (l : List α) (a b : Nat) : Nat → List α
  | 0 => l
  | n + 1 => swp (swr l a b n) (a + n) (b + n)
/-- l' is l but for a stable change of the places [a, b) -/
structure Loc (lt : α → α → Bool) (a b : Nat) (l l' : List α) : Prop where
  len : l'.length = l.length
  out : ∀ p, p < a ∨ b ≤ p → l'[p]? = l[p]?
  cls : ∀ k, l'.filter (eqv lt k) = l.filter (eqv lt k)
variable {lt : α → α → Bool} {a b c d m : Nat} {l l' l2 : List α}
theorem Loc.refl (l : List α) : Loc lt a b l l := ⟨rfl, fun _ _ => rfl, fun _ => rfl⟩
theorem Loc.trans (h : Loc lt a b l l') (k : Loc lt a b l' l2) : Loc lt a b l l2 := ⟨k.len.trans h.len, fun p hp => (k.out p hp).trans (h.out p hp), fun x => (k.cls x).trans (h.cls x)⟩
theorem Loc.wide (h : Loc lt a b l l') (h1 : c ≤ a) (h2 : b ≤ d) : Loc lt c d l l' := ⟨h.len, fun p hp => h.out p (by omega), h.cls⟩
theorem SW.irr (w : SW lt) (x : α) : lt x x = false := by
  cases h : lt x x
  · rfl
  · have := w.asym x x h; rw [h] at this; exact this
theorem eqv_self (w : SW lt) (x : α) : eqv lt x x = true := by
  simp [eqv, w.irr x]
theorem eqv_trans (w : SW lt) {k x y : α} (h1 : eqv lt k x = true) (h2 : eqv lt k y = true) : lt x y = false ∧ lt y x = false := by
  simp only [eqv, Bool.and_eq_true, Bool.not_eq_true'] at h1 h2
  exact ⟨w.trans y k x h2.1 h1.2, w.trans x k y h1.1 h2.2⟩
theorem Loc.rot (w : SW lt) (h1 : a ≤ m) (h2 : m ≤ b) (h3 : b ≤ l.length) (hne : ∀ p q x y, a ≤ p → p < m → m ≤ q → q < b → l[p]? = some x → l[q]? = some y → lt y x = true) : Loc lt a b l (rot l a m b) := by
  refine ⟨rot_len h1 h2 h3, fun p hp => ?_, fun k => ?_⟩
  · rw [rot_at h1 h2 h3]
    rcases hp with hp | hp
    · rw [if_pos hp]
    · rw [if_neg (by omega), if_neg (by omega), if_neg (by omega)]
  · have e : l = l.take a ++ ((l.take m).drop a ++ ((l.take b).drop m ++ l.drop b)) := by
      apply List.ext_getElem?; intro p
      simp only [List.getElem?_append, List.length_take, List.length_drop, List.getElem?_take, List.getElem?_drop]
      repeat' split
      all_goals first | rfl | (congr 1; omega) | (exfalso; omega)
    unfold Stb.rot
    conv => rhs; rw [e]
    simp only [List.filter_append]
    congr 1
    rw [← List.append_assoc, ← List.append_assoc]
    congr 1
    have key : (((l.take m).drop a).filter (eqv lt k)) = [] ∨ (((l.take b).drop m).filter (eqv lt k)) = [] := by
      by_cases hu : (((l.take m).drop a).filter (eqv lt k)) = []
      · exact .inl hu
      right
      obtain ⟨x, hx⟩ := List.exists_mem_of_ne_nil _ hu
      rw [List.mem_filter] at hx
      rw [List.filter_eq_nil_iff]
      intro y hy hk
      obtain ⟨p, hp⟩ := List.getElem?_of_mem hx.1
      obtain ⟨q, hq⟩ := List.getElem?_of_mem hy
      rw [List.getElem?_drop, List.getElem?_take] at hp hq
      split at hp
      · split at hq
        · have := hne _ _ x y (by omega) (by omega) (by omega) (by omega) hp hq
          rw [(eqv_trans w hx.2 hk).2] at this
          cases this
        · cases hq
      · cases hp
    rcases key with h | h <;> rw [h] <;> simp
/-- whatever lies there has lain there -/
theorem Loc.mem (w : SW lt) (h : Loc lt a b l l') {p : Nat} {x : α} (hp : a ≤ p) (hp2 : p < b) (hx : l'[p]? = some x) : ∃ q, a ≤ q ∧ q < b ∧ l[q]? = some x := by
  have hl := (List.getElem?_eq_some_iff.1 hx).1
  have hab : a ≤ b := by omega
  have e : ∀ s : List α, s = s.take a ++ ((s.take b).drop a ++ s.drop b) := fun s => by
    have h1 : (s.take b).take a = s.take a := by rw [List.take_take, Nat.min_eq_left hab]
    rw [← List.append_assoc, ← h1, List.take_append_drop, List.take_append_drop]
  have e1 : l'.take a = l.take a := by
    apply List.ext_getElem?; intro p
    simp only [List.getElem?_take]
    split
    · exact h.out p (by omega)
    · rfl
  have e2 : l'.drop b = l.drop b := by
    apply List.ext_getElem?; intro p
    simp only [List.getElem?_drop]
    exact h.out _ (by omega)
  have hc := h.cls x
  rw [e l', e l, e1, e2] at hc
  simp only [List.filter_append] at hc
  have hc := List.append_cancel_right (List.append_cancel_left hc)
  have hm : x ∈ ((l'.take b).drop a).filter (eqv lt x) := by
    rw [List.mem_filter]
    refine ⟨List.mem_of_getElem? (i := p - a) ?_, eqv_self w x⟩
    rw [List.getElem?_drop, List.getElem?_take, if_pos (by omega)]
    rw [show a + (p - a) = p by omega]; exact hx
  rw [hc, List.mem_filter] at hm
  obtain ⟨q, hq⟩ := List.getElem?_of_mem hm.1
  rw [List.getElem?_drop, List.getElem?_take] at hq
  split at hq
  · exact ⟨a + q, by omega, by omega, hq⟩
  · cases hq
/-- the places [a, b) are in order -/
def Srt (lt : α → α → Bool) (l : List α) (a b : Nat) : Prop := ∀ p q x y, a ≤ p → p < q → q < b → l[p]? = some x → l[q]? = some y → lt y x = false
theorem Srt.one (h : b ≤ a + 1) : Srt lt l a b := fun p q x y h1 h2 h3 => by omega
theorem Srt.of_out (h : Srt lt l a b) (k : Loc lt c d l l') (hd : b ≤ c ∨ d ≤ a) : Srt lt l' a b := fun p q x y h1 h2 h3 h4 h5 =>
  h p q x y h1 h2 h3 (by rw [← k.out p (by omega)]; exact h4) (by rw [← k.out q (by omega)]; exact h5)
/-- insertion: all is in order but for what lies at j, seen from ahead -/
def Ins (lt : α → α → Bool) (l : List α) (a j i : Nat) : Prop := ∀ p q x y, a ≤ p → p < q → q ≤ i → q ≠ j → l[p]? = some x → l[q]? = some y → lt y x = false
theorem Ins.start {i : Nat} (h : Srt lt l a i) : Ins lt l a i i := fun p q x y h1 h2 h3 h4 => h p q x y h1 h2 (by omega)
theorem Ins.step (w : SW lt) {i j : Nat} {x y : α} (h : Ins lt l a j i) (h1 : a < j) (h2 : j ≤ i) (h3 : i < l.length) (hx : l[j - 1]? = some x) (hy : l[j]? = some y) (hlt : lt y x = true) : Ins lt (swp l j (j - 1)) a (j - 1) i := by
  intro p q u v hp hpq hq hne hu hv
  rw [swp_at (by omega) (by omega)] at hu hv
  by_cases q1 : q = j
  · subst q1
    rw [if_neg (by omega), if_pos rfl] at hv
    by_cases p1 : p = q - 1
    · subst p1
      rw [if_pos rfl] at hu
      rw [hu] at hy; cases hy
      rw [hv] at hx; cases hx
      exact w.asym _ _ hlt
    · rw [if_neg p1, if_neg (by omega)] at hu
      exact h p (q - 1) u v hp (by omega) (by omega) (by omega) hu hv
  · rw [if_neg hne, if_neg q1] at hv
    by_cases p1 : p = j - 1
    · subst p1
      rw [if_pos rfl] at hu
      exact h j q u v (by omega) (by omega) hq q1 hu hv
    · rw [if_neg p1] at hu
      by_cases p2 : p = j
      · subst p2
        rw [if_pos rfl] at hu
        exact h (p - 1) q u v (by omega) (by omega) hq q1 hu hv
      · rw [if_neg p2] at hu
        exact h p q u v hp hpq hq q1 hu hv
theorem Ins.end_ {i j : Nat} (w : SW lt) (h : Ins lt l a j i) (hi : i < l.length) (hj : j ≤ i) (hlt : j ≤ a ∨ ∀ x y, l[j - 1]? = some x → l[j]? = some y → lt y x = false) : Srt lt l a (i + 1) := by
  intro p q x y h1 h2 h3 hx hy
  by_cases hq : q = j
  · subst hq
    rcases hlt with hlt | hlt
    · omega
    · by_cases hp : p = q - 1
      · subst hp; exact hlt x y hx hy
      · obtain ⟨z, hz⟩ : ∃ z, l[q - 1]? = some z := ⟨_, List.getElem?_eq_getElem (by omega)⟩
        exact w.trans x z y (h p (q - 1) x z h1 (by omega) (by omega) (by omega) hx hz) (hlt z y hz hy)
  · exact h p q x y h1 h2 (by omega) hq hx hy
/-- what the search of the symmetric merge has found -/
structure Cut (lt : α → α → Bool) (l : List α) (a m b mid s : Nat) : Prop where
  ge : a ≤ s
  lem : s ≤ m
  mide : mid + m - s ≤ b
  le : m ≤ mid + m - s
  mid_ge : s ≤ mid
  lo : ∀ x y, a < s → l[s - 1]? = some x → l[mid + m - s]? = some y → mid + m - s < b → lt y x = false
  hi : ∀ x y, s < m → m < mid + m - s → l[s]? = some x → l[mid + m - s - 1]? = some y → lt y x = true
theorem Cut.rot (w : SW lt) {mid s : Nat} (h : Cut lt l a m b mid s) (h3 : b ≤ l.length) (s1 : Srt lt l a m) (s2 : Srt lt l m b) : Loc lt a b l (rot l s m (mid + m - s)) ∧ Srt lt (rot l s m (mid + m - s)) a s ∧ Srt lt (rot l s m (mid + m - s)) s mid ∧
    Srt lt (rot l s m (mid + m - s)) mid (mid + m - s) ∧ Srt lt (rot l s m (mid + m - s)) (mid + m - s) b ∧
    ∀ p q x y, a ≤ p → p < mid → mid ≤ q → q < b → (rot l s m (mid + m - s))[p]? = some x → (rot l s m (mid + m - s))[q]? = some y → lt y x = false := by
  obtain ⟨g1, g2, g3, g4, g5, lo, hi⟩ := h
  have hle : ∀ p q x y, s ≤ p → p < m → m ≤ q → q < mid + m - s → l[p]? = some x → l[q]? = some y → lt y x = true := fun p q x y h1 h2 h3' h4 hx hy => by
    obtain ⟨u, hu⟩ : ∃ u, l[s]? = some u := ⟨_, List.getElem?_eq_getElem (by omega)⟩
    obtain ⟨v, hv⟩ : ∃ v, l[mid + m - s - 1]? = some v := ⟨_, List.getElem?_eq_getElem (by omega)⟩
    have huv := hi u v (by omega) (by omega) hu hv
    have hux : lt x u = false := by
      by_cases hp : p = s
      · subst hp; rw [hu] at hx; cases hx; exact w.irr _
      · exact s1 s p u x g1 (by omega) h2 hu hx
    have hyv : lt v y = false := by
      by_cases hq : q = mid + m - s - 1
      · subst hq; rw [hv] at hy; cases hy; exact w.irr _
      · exact s2 q _ y v h3' (by omega) (by omega) hy hv
    cases hyx : lt y x
    · have h1 := w.trans x y v hyx hyv
      have h2 := w.trans u x v hux h1
      rw [huv] at h2; exact h2.symm
    · rfl
  have hat := rot_at (l := l) g2 g4 (by omega)
  refine ⟨(Loc.rot w g2 g4 (by omega) hle).wide g1 g3, ?_, ?_, ?_, ?_, ?_⟩
  · intro p q x y h1 h2 h3 hx hy
    rw [hat, if_pos (by omega)] at hx hy
    exact s1 p q x y h1 h2 (by omega) hx hy
  · intro p q x y h1 h2 h3 hx hy
    rw [hat, if_neg (by omega), if_pos (by omega)] at hx hy
    exact s2 _ _ x y (by omega) (by omega) (by omega) hx hy
  · intro p q x y h1 h2 h3 hx hy
    rw [hat, if_neg (by omega), if_neg (by omega), if_pos (by omega)] at hx hy
    exact s1 _ _ x y (by omega) (by omega) (by omega) hx hy
  · intro p q x y h1 h2 h3 hx hy
    rw [hat, if_neg (by omega), if_neg (by omega), if_neg (by omega)] at hx hy
    exact s2 p q x y (by omega) h2 h3 hx hy
  · intro p q x y h1 h2 h3 h4 hx hy
    rw [hat] at hx hy
    rw [if_neg (by omega), if_neg (by omega)] at hy
    by_cases c1 : p < s
    · rw [if_pos c1] at hx
      by_cases c2 : q < mid + m - s
      · rw [if_pos c2] at hy
        exact s1 _ _ x y h1 (by omega) (by omega) hx hy
      · rw [if_neg c2] at hy
        obtain ⟨u, hu⟩ : ∃ u, l[s - 1]? = some u := ⟨_, List.getElem?_eq_getElem (by omega)⟩
        obtain ⟨v, hv⟩ : ∃ v, l[mid + m - s]? = some v := ⟨_, List.getElem?_eq_getElem (by omega)⟩
        have huv := lo u v (by omega) hu hv (by omega)
        have hxu : lt u x = false := by
          by_cases hp : p = s - 1
          · subst hp; rw [hu] at hx; cases hx; exact w.irr _
          · exact s1 p _ x u h1 (by omega) (by omega) hx hu
        have hvy : lt y v = false := by
          by_cases hq : q = mid + m - s
          · subst hq; rw [hv] at hy; cases hy; exact w.irr _
          · exact s2 _ q v y (by omega) (by omega) h4 hv hy
        exact w.trans x v y (w.trans x u v hxu huv) hvy
    · rw [if_neg c1, if_pos (by omega)] at hx
      by_cases c2 : q < mid + m - s
      · rw [if_pos c2] at hy
        exact w.asym _ _ (hle _ _ y x (by omega) (by omega) (by omega) (by omega) hy hx)
      · rw [if_neg c2] at hy
        exact s2 _ _ x y (by omega) (by omega) h4 hx hy
/-- the two halves sorted each, and the left not above the right -/
theorem Srt.join (w : SW lt) {mid : Nat} (k1 : Loc lt a mid l l') (k2 : Loc lt mid b l' l2) (s1 : Srt lt l' a mid) (s2 : Srt lt l2 mid b) (h1 : a ≤ mid) (h2 : mid ≤ b)
    (hc : ∀ p q x y, a ≤ p → p < mid → mid ≤ q → q < b → l[p]? = some x → l[q]? = some y → lt y x = false) : Loc lt a b l l2 ∧ Srt lt l2 a b := by
  refine ⟨(k1.wide (Nat.le_refl _) h2).trans (k2.wide h1 (Nat.le_refl _)), fun p q x y a1 a2 a3 hx hy => ?_⟩
  by_cases hq : q < mid
  · exact (s1.of_out k2 (.inl (Nat.le_refl _))) p q x y a1 a2 hq hx hy
  by_cases hp : mid ≤ p
  · exact s2 p q x y hp a2 a3 hx hy
  rw [k2.out p (by omega)] at hx
  obtain ⟨p', hp1, hp2, hx'⟩ := k1.mem w a1 (by omega) hx
  obtain ⟨q', hq1, hq2, hy'⟩ := k2.mem w (by omega) a3 hy
  rw [k1.out q' (by omega)] at hy'
  exact hc p' q' x y hp1 hp2 hq1 hq2 hx' hy'
/-- from a on blocks of B are in order, up to n -/
inductive Bl (lt : α → α → Bool) (l : List α) (B n : Nat) : Nat → Prop
  | nil {a : Nat} : n ≤ a → Bl lt l B n a
  | cons {a : Nat} : Srt lt l a (min (a + B) n) → Bl lt l B n (a + B) → Bl lt l B n a
/-- up to a blocks of B are in order -/
inductive Up (lt : α → α → Bool) (l : List α) (B : Nat) : Nat → Prop
  | nil : Up lt l B 0
  | snoc {a : Nat} : Up lt l B a → Srt lt l a (a + B) → Up lt l B (a + B)
theorem Bl.out {B n e : Nat} (h : Bl lt l B n e) (k : Loc lt c d l l') (hd : d ≤ e) : Bl lt l' B n e := by
  induction h with
  | nil h => exact .nil h
  | cons h1 _ ih => exact .cons (h1.of_out k (.inr hd)) (ih (by omega))
theorem Up.out {B e : Nat} (h : Up lt l B e) (k : Loc lt c d l l') (hd : e ≤ c) : Up lt l' B e := by
  induction h with
  | nil => exact .nil
  | snoc _ h2 ih => exact .snoc (ih (by omega)) (h2.of_out k (.inl hd))
theorem Up.join {B n e : Nat} (h : Up lt l B e) (k : Bl lt l B n e) (he : e ≤ n) : Bl lt l B n 0 := by
  induction h with
  | nil => exact k
  | snoc h1 h2 ih => exact ih (.cons (by rw [Nat.min_eq_left he]; exact h2) k) (by omega)
theorem Bl.head {B n e : Nat} (h : Bl lt l B n e) (he : e < n) : Srt lt l e (min (e + B) n) ∧ Bl lt l B n (e + B) := by
  cases h with
  | nil h => omega
  | cons h1 h2 => exact ⟨h1, h2⟩
theorem Bl.all {B n : Nat} (h : Bl lt l B n 0) (hB : n ≤ B) : Srt lt l 0 n := by
  by_cases h0 : 0 < n
  · have := (h.head h0).1
    rwa [Nat.zero_add, Nat.min_eq_right hB] at this
  · exact Srt.one (by omega)
/-- stable insertion -/
def insS (lt : α → α → Bool) (x : α) : List α → List α
  | [] => [x]
  | y :: l => if lt x y = true then x :: y :: l else y :: insS lt x l
def sortS (lt : α → α → Bool) (l : List α) : List α := l.foldl (fun acc x => insS lt x acc) []
theorem insS_mem (x : α) : ∀ (l : List α) (z : α), z ∈ insS lt x l ↔ z = x ∨ z ∈ l
  | [], z => by simp [insS]
  | y :: l, z => by
    unfold insS
    split
    · simp
    · simp only [List.mem_cons, insS_mem x l z]; constructor <;> (rintro (h | h | h) <;> simp [h])
theorem insS_len (x : α) : ∀ l : List α, (insS lt x l).length = l.length + 1
  | [] => rfl
  | y :: l => by unfold insS; split <;> simp [insS_len x l]
theorem sortS_len (l : List α) : (sortS lt l).length = l.length := by
  have key : ∀ (l acc : List α), (l.foldl (fun acc x => insS lt x acc) acc).length = acc.length + l.length := by
    intro l
    induction l with
    | nil => intro acc; rfl
    | cons x l ih => intro acc; rw [List.foldl_cons, ih, insS_len, List.length_cons]; omega
  simpa [sortS] using key l []
theorem sortS_mem (l : List α) (z : α) : z ∈ sortS lt l ↔ z ∈ l := by
  have key : ∀ (l acc : List α), z ∈ l.foldl (fun acc x => insS lt x acc) acc ↔ z ∈ acc ∨ z ∈ l := by
    intro l
    induction l with
    | nil => intro acc; simp
    | cons x l ih => intro acc; rw [List.foldl_cons, ih, insS_mem, List.mem_cons, or_comm (a := z = x), or_assoc]
  simpa [sortS] using key l []
/-- sorting by a key of the first of pairs -/
theorem sortS_map {β : Type} {lt' : β → β → Bool} {f : α → β} (hf : ∀ x y, lt' (f x) (f y) = lt x y) : ∀ l : List α, (sortS lt l).map f = sortS lt' (l.map f) := by
  have hi : ∀ (x : α) (l : List α), (insS lt x l).map f = insS lt' (f x) (l.map f) := fun x l => by
    induction l with
    | nil => rfl
    | cons y l ih =>
      simp only [insS, List.map_cons, hf]
      split <;> simp [ih]
  have key : ∀ (l acc : List α), (l.foldl (fun acc x => insS lt x acc) acc).map f = (l.map f).foldl (fun acc x => insS lt' x acc) (acc.map f) := by
    intro l
    induction l with
    | nil => intro acc; rfl
    | cons x l ih => intro acc; rw [List.foldl_cons, ih, hi, List.map_cons, List.foldl_cons]
  intro l
  exact key l []
end
end Go.Proofs.YtablhmobekmflaaGreatDoor.Stb

/-! Ew -/
namespace Go.Proofs.YtablhmobekmflaaGreatDoor
set_option linter.unusedVariables false
set_option linter.unusedSimpArgs false
open Go.RowKit
/-- a world that is greater than W -/
structure EW (W : World) where
  w : World
  ext : Ext W w
instance ewInh (W : World) : Nonempty (EW W) := ⟨⟨W, Ext.refl W⟩⟩
theorem EW.cell {W : World} {p : Addr} {u : Value} (h : W.cell? p = some u) (x : EW W) : x.w.cell? p = some u := x.ext.cell h
theorem EW.cells {W : World} {g : Nat} (hg : g < W.heap.size) (x : EW W) (o : Nat) : x.w.cell? ⟨g, o, none⟩ = W.cell? ⟨g, o, none⟩ := x.ext.cells _ hg
end Go.Proofs.YtablhmobekmflaaGreatDoor

/-! Extd -/
namespace Go.Proofs.YtablhmobekmflaaGreatDoor
set_option linter.unusedVariables false
set_option linter.unusedSimpArgs false
open Go.RowKit
structure Extd (w w' : World) : Prop where
  ext : Ext w w'
  dr : w.drawn ≤ w'.drawn
section
variable {w w1 w2 : World}
theorem Extd.refl (w : World) : Extd w w := ⟨Ext.refl w, Nat.le_refl _⟩
theorem Extd.trans (h : Extd w w1) (k : Extd w1 w2) : Extd w w2 := ⟨h.ext.trans k.ext, Nat.le_trans h.dr k.dr⟩
theorem Extd.drew (h : Extd w w1) : Extd w w1.drew := ⟨h.ext.drew, Nat.le_succ_of_le h.dr⟩
theorem Extd.alloc (h : Extd w w1) (o : Obj) : Extd w (w1.alloc o) := ⟨h.ext.alloc o, h.dr⟩
theorem Extd.setCell (h : Extd w w1) {p : Addr} (hp : w.heap.size ≤ p.block) (u : Value) : Extd w (w1.setCell p u) := ⟨h.ext.setCell hp u, h.dr⟩
theorem Extd.grow (h : Extd w w1) : ∃ (q : Nat) (os : Array Obj), w1 = Sort.grow (w.drewN q) os := by
  obtain ⟨⟨h1, h2, h3, h4, h5⟩, h6⟩ := h
  refine ⟨w1.drawn - w.drawn, w1.heap.extract w.heap.size w1.heap.size, ?_⟩
  have hh : w1.heap = w.heap ++ w1.heap.extract w.heap.size w1.heap.size := by
    apply Array.ext_getElem?
    intro i
    by_cases hi : i < w.heap.size
    · rw [Array.getElem?_append_left hi]
      exact h5 i hi
    · rw [Array.getElem?_append_right (by omega), Array.getElem?_extract]
      by_cases hi2 : i < w1.heap.size
      · rw [if_pos (by omega), show w.heap.size + (i - w.heap.size) = i by omega]
      · rw [if_neg (by omega), Array.getElem?_eq_none (by omega)]
  unfold Sort.grow World.drewN
  dsimp only
  rw [← hh, ← h1, ← h2, ← h3, show w.drawn + (w1.drawn - w.drawn) = w1.drawn by omega]
end
/-- a world that is greater than W and has drawn no less -/
structure EWd (W : World) where
  w : World
  exd : Extd W w
theorem EWd.ext {W : World} (x : EWd W) : Ext W x.w := x.exd.ext
instance ewdInh (W : World) : Nonempty (EWd W) := ⟨⟨W, Extd.refl W⟩⟩
end Go.Proofs.YtablhmobekmflaaGreatDoor

/-! StbL -/
namespace Go.Proofs.YtablhmobekmflaaGreatDoor
set_option linter.unusedVariables false
set_option linter.unusedSimpArgs false
open Go.Shelf Go.RowKit Go.Lib Go.Sort
section
variable {α : Type} [Inhabited α]
theorem arr_get {d : Array α} {i : Nat} (h : i < d.size) : d.toList[i]? = some d[i]! := by
  rw [Array.getElem?_toList, getElem!_pos d i h, Array.getElem?_eq_getElem h]
end
end Go.Proofs.YtablhmobekmflaaGreatDoor

/-! StbB -/
namespace Go.Proofs.YtablhmobekmflaaGreatDoor
set_option linter.unusedVariables false
set_option linter.unusedSimpArgs false
open Go.Shelf Go.RowKit Go.Lib Go.Sort
variable {P : Program} {k : Nat} {α : Type} [Inhabited α]
end Go.Proofs.YtablhmobekmflaaGreatDoor

/-! StbA -/
namespace Go.Proofs.YtablhmobekmflaaGreatDoor
set_option linter.unusedVariables false
set_option linter.unusedSimpArgs false
open Go.Shelf Go.RowKit Go.Lib Go.Sort
variable {P : Program} {k : Nat} {α : Type} [Inhabited α]
end Go.Proofs.YtablhmobekmflaaGreatDoor

/-! StbC -/
namespace Go.Proofs.YtablhmobekmflaaGreatDoor
set_option linter.unusedVariables false
set_option linter.unusedSimpArgs false
open Go.Shelf Go.RowKit Go.Lib Go.Sort
section
variable {α : Type}
end
variable {P : Program} {k : Nat} {α : Type} [Inhabited α]
end Go.Proofs.YtablhmobekmflaaGreatDoor

/-! StbD -/
namespace Go.Proofs.YtablhmobekmflaaGreatDoor
set_option linter.unusedVariables false
set_option linter.unusedSimpArgs false
open Go.Shelf Go.RowKit Go.Lib Go.Sort
variable {P : Program} {k : Nat} {α : Type} [Inhabited α]
end Go.Proofs.YtablhmobekmflaaGreatDoor

/-! StbE -/
namespace Go.Proofs.YtablhmobekmflaaGreatDoor
set_option linter.unusedVariables false
set_option linter.unusedSimpArgs false
open Go.Shelf Go.RowKit Go.Lib Go.Sort
variable {P : Program} {k : Nat} {α : Type} [Inhabited α]
end Go.Proofs.YtablhmobekmflaaGreatDoor

/-! Builder -/
namespace Go.Proofs.YtablhmobekmflaaGreatDoor
set_option linter.unusedVariables false
set_option linter.unusedSimpArgs false
open Go.RowKit
end Go.Proofs.YtablhmobekmflaaGreatDoor

/-! Region -/
namespace Go.Proofs.YtablhmobekmflaaGreatDoor
set_option linter.unusedVariables false
set_option linter.unusedSimpArgs false
open Go.RowKit
/-- a region -/
structure Reg where
  name : ByteArray
  top : Int
  height : Int
  left : Int
  width : Int
  align : Int
  bottom : Bool
  deriving DecidableEq
def Reg.val (r : Reg) : Value := .agg #[.string r.name, .int .i64 r.top, .int .i64 r.height, .int .i64 r.left, .int .i64 r.width, .int .u8 r.align, .bool r.bottom]
def Reg.zero : Reg := ⟨ByteArray.empty, 0, 0, 0, 0, 0, false⟩
def Reg.default : Reg := ⟨ByteArray.empty, 11, 4, 0, 32, 2, true⟩
def Reg.inGrid (r : Reg) : Prop := (0 ≤ r.top ∧ r.top ≤ 14) ∧ (1 ≤ r.height ∧ r.height ≤ 15 - r.top) ∧ (0 ≤ r.left ∧ r.left ≤ 31) ∧ (1 ≤ r.width ∧ r.width ≤ 32 - r.left)
instance (r : Reg) : Decidable r.inGrid := by unfold Reg.inGrid; infer_instance
def Reg.check (r : Reg) : Int := if nameB r.name = false then 5 else if ¬ r.inGrid then 2 else if r.align < 1 ∨ 3 < r.align then 3 else 0
end Go.Proofs.YtablhmobekmflaaGreatDoor

/-! Eql -/
namespace Go.Proofs.YtablhmobekmflaaGreatDoor
set_option linter.unusedVariables false
set_option linter.unusedSimpArgs false
open Go.RowKit
theorem toList_inj (a b : ByteArray) : (a.toList = b.toList) = (a = b) := by
  rw [ByteArray.toList_eq, ByteArray.toList_eq]
  obtain ⟨⟨x⟩⟩ := a
  obtain ⟨⟨y⟩⟩ := b
  simp
end Go.Proofs.YtablhmobekmflaaGreatDoor

/-! Style -/
namespace Go.Proofs.YtablhmobekmflaaGreatDoor
set_option linter.unusedVariables false
set_option linter.unusedSimpArgs false
open Go.RowKit
def Run.plainStyle (a b : Run) : Prop := a.color = b.color ∧ a.italic = b.italic ∧ a.under = b.under
instance (a b : Run) : Decidable (Run.plainStyle a b) := by unfold Run.plainStyle; infer_instance
/-- would two neighbouring runs be joined? -/
def alikeB (a b : Run) : Bool := decide (Run.plainStyle a b) && decide (a.ruby.toList = []) && decide (b.ruby.toList = [])
/-- the bytes of a row -/
def rowBytes (l : Row) : Nat := (l.map fun r => r.text.size).sum
/-- the number of characters of a row, -1 if a text is not valid -/
def rowLen : Row → Int
  | [] => 0
  | r :: l => if clen r.text < 0 then -1 else if rowLen l < 0 then -1 else clen r.text + rowLen l
def LenRel (w : World) (n : Nat) (l : Row) (v i : Value) (wr : World) : Prop :=
  ∃ (k : Nat) (s : Int), k ≤ n ∧ i = .int .i64 k ∧ v = .int .i64 s ∧ 0 ≤ s ∧ s ≤ rowBytes (l.take k) ∧ Ext w wr ∧ rowLen l = if rowLen (l.drop k) < 0 then -1 else s + rowLen (l.drop k)
end Go.Proofs.YtablhmobekmflaaGreatDoor

/-! StyleB -/
namespace Go.Proofs.YtablhmobekmflaaGreatDoor
set_option linter.unusedVariables false
set_option linter.unusedSimpArgs false
open Go.RowKit
/-- the bytes of a row's text -/
def rowText (l : Row) : List UInt8 := l.flatMap fun r => r.text.data.toList
def PlainRel (w : World) (bx : Array Value) (n : Nat) (l : Row) (i : Value) (wr : World) : Prop :=
  ∃ k : Nat, k ≤ n ∧ i = .int .i64 k ∧ Ext (w.alloc (.cells bx 174)) wr ∧ Lib.IsBuilder 122 5 (w.heap.size + 1) (w.heap.size + 1) (Lib.byteCells (rowText (l.take k))) wr
end Go.Proofs.YtablhmobekmflaaGreatDoor

/-! StyleC -/
namespace Go.Proofs.YtablhmobekmflaaGreatDoor
set_option linter.unusedVariables false
set_option linter.unusedSimpArgs false
open Go.RowKit
/-- the error of a run behind another one -/
def runErr (p : Option Run) (x : Run) : Int :=
  if vld x.text = false then 10 else if x.text.toList = [] then 4 else if ¬ x.color ≤ 6 then 12 else if vld x.ruby = false then 10 else if (p.any fun q => alikeB q x) = true then 8 else 0
def runsErr : Option Run → Row → Int
  | _, [] => 0
  | p, x :: l => if runErr p x = 0 then runsErr (some x) l else runErr p x
/-- the error of a row -/
def rowErr (l : Row) : Int := if 16 < l.length then 9 else runsErr none l
/-- the run ahead of place k -/
def ahead (l : Row) (k : Nat) : Option Run := if k = 0 then none else l[k - 1]?
def CheckRel (w : World) (bx : Array Value) (n : Nat) (l : Row) (i : Value) (wr : World) : Prop :=
  ∃ k : Nat, k ≤ n ∧ i = .int .i64 k ∧ Ext (w.alloc (.cells bx 174)) wr ∧ runsErr none l = runsErr (ahead l k) (l.drop k)
end Go.Proofs.YtablhmobekmflaaGreatDoor

/-! RowE -/
namespace Go.Proofs.YtablhmobekmflaaGreatDoor
set_option linter.unusedVariables false
set_option linter.unusedSimpArgs false
open Go.RowKit
/-- may a text not be that of a row? -/
def badS (s : ByteArray) : Bool := s.toList.isEmpty || decide (s.data.toList.head? = some 32) || decide (s.data.toList.getLast? = some 32) || Lib.contains s.data.toList [32, 32]
def textOf (l : Row) : ByteArray := ⟨(rowText l).toArray⟩
/-- the error of a row of an event -/
def rowErrE (l : Row) : Int := if rowErr l ≠ 0 then rowErr l else if badS (textOf l) = true then 4 else if 32 < rowLen l then 11 else 0
/-- is a span one of frames? -/
def spansB (i o : Int) : Bool := decide (0 ≤ i ∧ i < o ∧ o ≤ 5184000)
/-- is a kind none? -/
def noKind (k : Int) : Bool := decide (k < 1 ∨ 4 < k)
def kindNames : Array Value := #[.string ⟨#[68, 73, 65, 76, 79, 71, 85, 69]⟩, .string ⟨#[83, 79, 85, 78, 68]⟩, .string ⟨#[84, 73, 84, 76, 69]⟩, .string ⟨#[77, 85, 83, 73, 67]⟩]
/-- what KindName comes to: a text that is empty just if the kind is none -/
def KindPost (k : Int) (w : World) (e : Ending) (w' : World) : Prop := ∃ s : ByteArray, e = .returned (.string s) ∧ s.toList.isEmpty = noKind k ∧ Ext w w'
end Go.Proofs.YtablhmobekmflaaGreatDoor

/-! RegionB -/
namespace Go.Proofs.YtablhmobekmflaaGreatDoor
set_option linter.unusedVariables false
set_option linter.unusedSimpArgs false
open Go.RowKit
def Reg.usable (r : Reg) : Bool := decide (r = Reg.default ∨ r.check = 0)
def RegC (w : World) (b o : Nat) (r : Reg) : Prop :=
  w.cell? ⟨b, o, none⟩ = some (.string r.name) ∧ w.cell? ⟨b, o + 1, none⟩ = some (.int .i64 r.top) ∧ w.cell? ⟨b, o + 2, none⟩ = some (.int .i64 r.height) ∧ w.cell? ⟨b, o + 3, none⟩ = some (.int .i64 r.left) ∧
  w.cell? ⟨b, o + 4, none⟩ = some (.int .i64 r.width) ∧ w.cell? ⟨b, o + 5, none⟩ = some (.int .u8 r.align) ∧ w.cell? ⟨b, o + 6, none⟩ = some (.bool r.bottom)
theorem RegC.stays : Stays RegC := fun _ _ _ _ _ k h => ⟨k.cell h.1, k.cell h.2.1, k.cell h.2.2.1, k.cell h.2.2.2.1, k.cell h.2.2.2.2.1, k.cell h.2.2.2.2.2.1, k.cell h.2.2.2.2.2.2⟩
end Go.Proofs.YtablhmobekmflaaGreatDoor

/-! Place -/
namespace Go.Proofs.YtablhmobekmflaaGreatDoor
set_option linter.unusedVariables false
set_option linter.unusedSimpArgs false
open Go.RowKit
def IntsAt (w : World) (A : Option Addr) (n : Nat) (l : List Int) : Prop := Sl w 1 (Cells fun x => [.int .i64 x]) A n l
theorem IntsAt.ext {w w1 : World} {A : Option Addr} {n : Nat} {l : List Int} (h : IntsAt w A n l) (k : Ext w w1) : IntsAt w1 A n l := Sl.ext (Cells.stays _) h k
theorem IntsAt.cell {w : World} {A : Option Addr} {n : Nat} {l : List Int} (h : IntsAt w A n l) {i : Nat} (hi : i < n) : ∃ b off x, A = some ⟨b, off, none⟩ ∧ l[i]? = some x ∧ w.cell? ⟨b, off + i, none⟩ = some (.int .i64 x) := by
  obtain ⟨b, off, x, hA, hx, hc⟩ := h.at_ hi
  exact ⟨b, off, x, hA, hx, by simpa using hc 0 (.int .i64 x) rfl⟩
structure Spot where
  row : Int
  col : Int
  len : Int
  deriving DecidableEq
def Spot.cells (s : Spot) : List Value := [.int .i64 s.row, .int .i64 s.col, .int .i64 s.len]
def Spot.val (s : Spot) : Value := .agg s.cells.toArray
def SpotsAt (w : World) (A : Option Addr) (n : Nat) (l : List Spot) : Prop := Sl w 3 (Cells Spot.cells) A n l
def Reg.spot (r : Reg) (top : Int) (i : Nat) (n : Int) : Spot := ⟨top + i, if r.align = 3 then r.left + (r.width - n) else if r.align = 2 then r.left + (r.width - n) / 2 else r.left, n⟩
def Reg.spots (r : Reg) (top : Int) : Nat → List Int → List Spot
  | _, [] => []
  | i, n :: l => r.spot top i n :: r.spots top (i + 1) l
def Reg.lensErr (r : Reg) : List Int → Int
  | [] => 0
  | n :: l => if n < 0 then 2 else if r.width < n then 11 else r.lensErr l
def Reg.top' (r : Reg) (n : Nat) : Int := if r.bottom then r.top + (r.height - n) else r.top
/-- the cells of rows of these lengths, and the error -/
def Reg.place (r : Reg) (lens : List Int) : Int := if r.usable = false then 1 else if r.height < lens.length then 9 else r.lensErr lens
def PlaceRelI (w : World) (bx : Array Value) (r : Reg) (top : Int) (n : Nat) (lens : List Int) (v i : Value) (wr : World) : Prop :=
  ∃ k : Nat, k ≤ n ∧ i = .int .i64 k ∧ Ext (w.alloc (.cells bx 105)) wr ∧ r.lensErr lens = r.lensErr (lens.drop k) ∧
    wr.ownsRow (w.heap.size + 1) 248 3 v k ((r.spots top 0 (lens.take k)).flatMap Spot.cells)
/-- what Place returns -/
def PlacePost (r : Reg) (lens : List Int) (w : World) (e : Ending) (w' : World) : Prop :=
  ∃ A n c, e = .returned (.tuple #[.slice A n c, .int .i64 (r.place lens)]) ∧ SpotsAt w' A n (if r.place lens = 0 then r.spots (r.top' lens.length) 0 lens else []) ∧ n ≤ c ∧ Ext w w'
end Go.Proofs.YtablhmobekmflaaGreatDoor

/-! Find -/
namespace Go.Proofs.YtablhmobekmflaaGreatDoor
set_option linter.unusedVariables false
set_option linter.unusedSimpArgs false
open Go.RowKit
def RegsAt (w : World) (A : Option Addr) (n : Nat) (l : List Reg) : Prop := Sl w 7 RegC A n l
theorem RegsAt.ext {w w1 : World} {A : Option Addr} {n : Nat} {l : List Reg} (h : RegsAt w A n l) (k : Ext w w1) : RegsAt w1 A n l := Sl.ext RegC.stays h k
def findR (l : List Reg) (nm : ByteArray) : Option Reg := if nm.toList = [] then some Reg.default else l.find? (fun r => r.name.toList == nm.toList)
def regZero : Array Value := #[.string ⟨#[]⟩, .int .i64 0, .int .i64 0, .int .i64 0, .int .i64 0, .int .u8 0, .bool false]
def FindRel (w : World) (A : Option Addr) (n : Nat) (l : List Reg) (nm : ByteArray) (i : Value) (wr : World) : Prop :=
  ∃ k : Nat, k ≤ n ∧ i = .int .i64 k ∧ Ext (w.alloc (.cells regZero 105)) wr ∧ l.find? (fun r => r.name.toList == nm.toList) = (l.drop k).find? (fun r => r.name.toList == nm.toList)
end Go.Proofs.YtablhmobekmflaaGreatDoor

/-! Event -/
namespace Go.Proofs.YtablhmobekmflaaGreatDoor
set_option linter.unusedVariables false
set_option linter.unusedSimpArgs false
open Go.RowKit
/-- an event -/
structure Ev where
  id : Int
  inn : Int
  out : Int
  region : ByteArray
  kind : Int
  speaker : ByteArray
  rows : List Row
  deriving DecidableEq
/-- the cells of an event whose rows lie at A -/
def Ev.cells (e : Ev) (A : Option Addr) (n c : Nat) : Array Value := #[.int .i64 e.id, .int .i64 e.inn, .int .i64 e.out, .string e.region, .int .u8 e.kind, .string e.speaker, .slice A n c]
/-- its rows lie at A, within a capacity that Go bears -/
def EvAt (w : World) (e : Ev) (A : Option Addr) (n c : Nat) : Prop := RowsAt w A n e.rows ∧ n ≤ c ∧ n * 24 ≤ 140737488355328
theorem EvAt.ext {w w1 : World} {e : Ev} {A : Option Addr} {n c : Nat} (h : EvAt w e A n c) (k : Ext w w1) : EvAt w1 e A n c := ⟨h.1.ext k, h.2⟩
theorem EvAt.len {w : World} {e : Ev} {A : Option Addr} {n c : Nat} (h : EvAt w e A n c) : e.rows.length = n := h.1.len
/-- small texts: what the walks that reckon lengths ask -/
def RowSmall (r : Row) : Prop := rowBytes r < 4294967281 ∧ ∀ x ∈ r, x.text.size ≤ 4611686018427387904 ∧ x.ruby.size ≤ 4611686018427387904
def EvSmall (e : Ev) : Prop := e.region.size ≤ 9223372036854775807 ∧ e.speaker.size ≤ 9223372036854775807 ∧ ∀ r ∈ e.rows, RowSmall r
def LensPost (e : Ev) (w : World) (en : Ending) (w' : World) : Prop :=
  ∃ A n c, en = .returned (.slice A n c) ∧ IntsAt w' A n (e.rows.map rowLen) ∧ n ≤ c ∧ Ext w w'
def LensRel (w : World) (bx : Array Value) (n : Nat) (rows : List Row) (v i : Value) (wr : World) : Prop :=
  ∃ k : Nat, k ≤ n ∧ i = .int .i64 k ∧ Ext (w.alloc (.cells bx 64)) wr ∧ wr.ownsRow (w.heap.size + 1) 3 1 v k (((rows.take k).map rowLen).flatMap fun x => [Value.int .i64 x])
end Go.Proofs.YtablhmobekmflaaGreatDoor

/-! EventB -/
namespace Go.Proofs.YtablhmobekmflaaGreatDoor
set_option linter.unusedVariables false
set_option linter.unusedSimpArgs false
open Go.RowKit
def Ev.frames (e : Ev) : Int := if spansB e.inn e.out = true then e.out - e.inn else 0
def lenSum : Int → List Int → Int
  | s, [] => s
  | s, n :: l => if n < 0 then -1 else lenSum (s + n) l
/-- the number of characters of an event, with its line feeds -/
def Ev.len (e : Ev) : Int := lenSum (max ((e.rows.length : Int) - 1) 0) (e.rows.map rowLen)
def Ev.bytes (e : Ev) : Nat := (e.rows.map rowBytes).sum
def sumNat (l : List Nat) : Nat := l.sum
def ELenRel (n : Nat) (e : Ev) (v i : Value) : Prop :=
  ∃ (k : Nat) (s : Int), k ≤ n ∧ i = .int .i64 k ∧ v = .int .i64 s ∧ 0 ≤ s ∧ s ≤ n + ((e.rows.take k).map rowBytes).sum ∧ e.len = lenSum s ((e.rows.map rowLen).drop k)
/-- the text of an event -/
def Ev.text (e : Ev) : List UInt8 := Lib.join (e.rows.map rowText) [10]
def EPlainRel (w : World) (bx : Array Value) (n : Nat) (rows : List Row) (v i : Value) (wr : World) : Prop :=
  ∃ k : Nat, k ≤ n ∧ i = .int .i64 k ∧ Ext (w.alloc (.cells bx 64)) wr ∧ wr.ownsRow (w.heap.size + 1) 9 1 v k (((rows.take k).map textOf).flatMap fun x => [Value.string x])
end Go.Proofs.YtablhmobekmflaaGreatDoor

/-! EventC -/
namespace Go.Proofs.YtablhmobekmflaaGreatDoor
set_option linter.unusedVariables false
set_option linter.unusedSimpArgs false
open Go.RowKit
def RegsSmall (l : List Reg) : Prop := ∀ r ∈ l, r.name.size ≤ 9223372036854775807
/-- the error of Spots -/
def Ev.spotsErr (e : Ev) (regs : List Reg) : Int :=
  match findR regs e.region with
  | none => 6
  | some r => if (e.rows.map rowLen).any (fun n => decide (n < 0)) = true then 10 else r.place (e.rows.map rowLen)
def Ev.spots (e : Ev) (regs : List Reg) : List Spot :=
  if e.spotsErr regs = 0 then ((findR regs e.region).getD Reg.zero).spots (((findR regs e.region).getD Reg.zero).top' e.rows.length) 0 (e.rows.map rowLen) else []
def SpotsPost (e : Ev) (regs : List Reg) (w : World) (en : Ending) (w' : World) : Prop :=
  ∃ A n c, en = .returned (.tuple #[.slice A n c, .int .i64 (e.spotsErr regs)]) ∧ SpotsAt w' A n (e.spots regs) ∧ n ≤ c ∧ Ext w w'
def NegRel (n : Nat) (l : List Int) (i : Value) : Prop := ∃ k : Nat, k ≤ n ∧ i = .int .i64 k ∧ l.any (fun n => decide (n < 0)) = (l.drop k).any (fun n => decide (n < 0))
end Go.Proofs.YtablhmobekmflaaGreatDoor

/-! EventD -/
namespace Go.Proofs.YtablhmobekmflaaGreatDoor
set_option linter.unusedVariables false
set_option linter.unusedSimpArgs false
open Go.RowKit
def rowsErr : List Row → Int
  | [] => 0
  | r :: l => if rowErrE r = 0 then rowsErr l else rowErrE r
/-- the first error of an event in a document with these regions -/
def Ev.err (e : Ev) (regs : List Reg) : Int :=
  if e.id < 1 ∨ 1099511627776 < e.id ∨ spansB e.inn e.out = false then 2
  else match findR regs e.region with
  | none => 6
  | some r =>
    if noKind e.kind = true then 3
    else if e.speaker.toList.isEmpty = false ∧ nameB e.speaker = false then 5
    else if e.rows.length = 0 ∨ 4 < e.rows.length then 9
    else if rowsErr e.rows ≠ 0 then rowsErr e.rows
    else r.place (e.rows.map rowLen)
def ChkRel (w : World) (n : Nat) (rows : List Row) (i : Value) (wr : World) : Prop := ∃ k : Nat, k ≤ n ∧ i = .int .i64 k ∧ Ext w wr ∧ rowsErr rows = rowsErr (rows.drop k)
end Go.Proofs.YtablhmobekmflaaGreatDoor

/-! Less -/
namespace Go.Proofs.YtablhmobekmflaaGreatDoor
set_option linter.unusedVariables false
set_option linter.unusedSimpArgs false
open Go.RowKit
def cmpI (a b : Int) : Int := if a < b then -1 else if b < a then 1 else 0
theorem isNaN_any (a : Int) (w : World) : Calls Tryz.prog 198 #[.int .i64 a] w fun e w' => e = .returned (.bool false) ∧ w = w' := by
  go_enter Tryz.func198, Tryz.ntmps198
  go_wp2
  go_ret
  exact ⟨rfl, rfl⟩
set_option maxHeartbeats 400000 in
theorem Compare_any (a b : Int) (w : World) : Calls Tryz.prog 134 #[.int .i64 a, .int .i64 b] w fun e w' => e = .returned (.int .i64 (cmpI a b)) ∧ w = w' := by
  go_enter Tryz.func134, Tryz.ntmps134
  go_wp2_with (first | (go_at_call 198; refine (isNaN_any _ _).mono ?_; rintro e w' ⟨rfl, rfl⟩))
  all_goals go_ret
  · exact ⟨ret_int (by unfold cmpI; simp; omega), rfl⟩
  · exact ⟨ret_int (by unfold cmpI; rw [if_neg (by omega), if_pos (by omega)]), rfl⟩
  · exact ⟨ret_int (by unfold cmpI; rw [if_neg (by omega), if_neg (by omega)]), rfl⟩
def orI (a b : Int) : Int := if a ≠ 0 then a else b
/-- is an event ahead of another one? -/
def lessB (x y : Ev) : Bool := decide (x.inn < y.inn ∨ x.inn = y.inn ∧ x.id < y.id)
end Go.Proofs.YtablhmobekmflaaGreatDoor

/-! DocP -/
namespace Go.Proofs.YtablhmobekmflaaGreatDoor
set_option linter.unusedVariables false
set_option linter.unusedSimpArgs false
open Go.RowKit
/-- a comment -/
structure Com where
  id : Int
  ev : Int
  fr : Int
  til : Int
  author : ByteArray
  text : ByteArray
  done : Bool
  lost : Bool
  deriving DecidableEq
def Com.vals (c : Com) : List Value := [.int .i64 c.id, .int .i64 c.ev, .int .i64 c.fr, .int .i64 c.til, .string c.author, .string c.text, .bool c.done, .bool c.lost]
/-- a document -/
structure Doc where
  title : ByteArray
  lang : ByteArray
  rate : Int
  drop : Bool
  last : Int
  regs : List Reg
  evs : List Ev
  coms : List Com
/-- where its three lists lie -/
structure DocH where
  ra : Option Addr
  rn : Nat
  rc : Nat
  ea : Option Addr
  en : Nat
  ec : Nat
  ca : Option Addr
  cn : Nat
  cc : Nat
def Doc.cells (d : Doc) (h : DocH) : Array Value := #[.string d.title, .string d.lang, .int .u8 d.rate, .bool d.drop, .int .i64 d.last, .slice h.ra h.rn h.rc, .slice h.ea h.en h.ec, .slice h.ca h.cn h.cc]
/-- the cells of an event, its rows behind them -/
def EvC (w : World) (b o : Nat) (e : Ev) : Prop := ∃ A n c, (∀ j u, (e.cells A n c).toList[j]? = some u → w.cell? ⟨b, o + j, none⟩ = some u) ∧ EvAt w e A n c
theorem EvC.stays : Stays EvC := fun _ _ _ _ _ k ⟨A, n, c, h1, h2⟩ => ⟨A, n, c, fun j u hu => k.cell (h1 j u hu), h2.ext k⟩
def EvsAt (w : World) (A : Option Addr) (n : Nat) (l : List Ev) : Prop := Sl w 7 EvC A n l
theorem EvsAt.ext {w w1 : World} {A : Option Addr} {n : Nat} {l : List Ev} (h : EvsAt w A n l) (k : Ext w w1) : EvsAt w1 A n l := Sl.ext EvC.stays h k
def ComsAt (w : World) (A : Option Addr) (n : Nat) (l : List Com) : Prop := Sl w 8 (Cells Com.vals) A n l
theorem ComsAt.ext {w w1 : World} {A : Option Addr} {n : Nat} {l : List Com} (h : ComsAt w A n l) (k : Ext w w1) : ComsAt w1 A n l := Sl.ext (Cells.stays _) h k
structure DocAt (w : World) (d : Doc) (h : DocH) : Prop where
  regs : RegsAt w h.ra h.rn d.regs
  evs : EvsAt w h.ea h.en d.evs
  coms : ComsAt w h.ca h.cn d.coms
theorem DocAt.ext {w w1 : World} {d : Doc} {h : DocH} (k : DocAt w d h) (hx : Ext w w1) : DocAt w1 d h := ⟨k.regs.ext hx, k.evs.ext hx, k.coms.ext hx⟩
/-- the first error of a header -/
def Doc.headErr (d : Doc) : Int :=
  if vld d.title = false then 10 else if 400 < d.title.size then 9 else if d.lang.toList.isEmpty = false ∧ nameB d.lang = false then 5 else if rateOkB d.rate d.drop = false then 13 else if d.last < 0 ∨ 1099511627776 < d.last then 2 else 0
/-- the first error of regions behind a name -/
def regsLoop : Option ByteArray → List Reg → Int
  | _, [] => 0
  | p, r :: l => if r.check ≠ 0 then r.check else if p = some r.name then 7 else if (p.map fun q => Op.bytesLess r.name.toList q.toList) = some true then 8 else regsLoop (some r.name) l
def regsErr (l : List Reg) : Int := if 16 < l.length then 9 else regsLoop none l
/-- the place of an event with a number -/
def findE (l : List Ev) (id : Int) : Option Nat := l.findIdx? fun e => e.id == id
/-- the first error of the events behind those ahead of them -/
def evsLoop (regs : List Reg) (last : Int) : List Ev → List Ev → Int
  | _, [] => 0
  | pre, x :: l => if x.err regs ≠ 0 then x.err regs else if last < x.id then 2 else if (pre.getLast?.map fun p => lessB p x) = some false then 8 else if (findE pre x.id).isSome = true then 7 else evsLoop regs last (pre ++ [x]) l
/-- the error of the numbers of a comment -/
def Com.anchorErr (c : Com) (last : Int) (evs : List Ev) : Int :=
  if c.ev < 1 ∨ last < c.ev then 2 else if c.lost = true then (if c.fr ≠ 0 ∨ c.til ≠ 0 then 2 else 0) else
    match findE evs c.ev with
    | none => 6
    | some k => if c.fr < 0 ∨ c.til ≤ c.fr ∨ (evs[k]?.map fun e => decide (e.len < c.til)) = some true then 2 else 0
/-- the first error of the comments behind a number -/
def comsLoop (last : Int) (evs : List Ev) : Option Int → List Com → Int
  | _, [] => 0
  | p, c :: l => if c.id < 1 ∨ last < c.id then 2 else if (p.map fun q => decide (c.id ≤ q)) = some true then 8 else if (findE evs c.id).isSome = true then 7 else
      if c.anchorErr last evs ≠ 0 then c.anchorErr last evs else if nameB c.author = false then 5 else if vld c.text = false then 10 else if c.text.toList.isEmpty = true then 4 else if 400 < c.text.size then 9 else comsLoop last evs (some c.id) l
/-- the first error of a document -/
def Doc.err (d : Doc) : Int :=
  if d.headErr ≠ 0 then d.headErr else if regsErr d.regs ≠ 0 then regsErr d.regs else if 400 < d.evs.length then 9 else if evsLoop d.regs d.last [] d.evs ≠ 0 then evsLoop d.regs d.last [] d.evs else
    if 64 < d.coms.length then 9 else comsLoop d.last d.evs none d.coms
end Go.Proofs.YtablhmobekmflaaGreatDoor
