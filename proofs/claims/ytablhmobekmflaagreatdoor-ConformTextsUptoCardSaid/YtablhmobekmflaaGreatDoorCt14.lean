/- Texts laid together. -/
import Derived.Lib.LaidTab
import Derived.Test.YtablhmobekmflaaGreatDoorCt13
import Derived.Test.YtablhmobekmflaaGreatDoorShelf
import Derived.Test.YtablhmobekmflaaGreatDoorCt10
import Derived.Test.YtablhmobekmflaaGreatDoorCt08
import Derived.Test.YtablhmobekmflaaGreatDoorCt09
import Derived.Test.YtablhmobekmflaaGreatDoorCt01
import Derived.Test.YtablhmobekmflaaGreatDoorCt02
import Derived.Test.YtablhmobekmflaaGreatDoorCt06
import Derived.Shelf.Strings.Builder1
import Derived.Shelf.Strings.Builder2
import Derived.Shelf.Strings.OnBuilder
import Derived.Shelf.Small.Bits
import Derived.Shelf.Strings.BuilderF
import Derived.Shelf.Strings.BuilderK
import Derived.Shelf.Utf8.RuneCount
import Derived.Shelf.Strings.Builder2Cap
import Derived.Shelf.Strconv.Itoa0
import Derived.Shelf.Strconv.Itoa1
import Derived.Shelf.LaysM
import Derived.Shelf.Strconv.Itoa2
import Derived.Shelf.Strconv.Itoa3
import Derived.Shelf.Strconv.Itoa4
import Derived.Shelf.Strings.Search1
import Derived.Shelf.Strings.Search2
import Derived.Shelf.Strings.Search3
import Derived.Shelf.Strings.Shaped
import Derived.Shelf.Sort.Plain
import Derived.Shelf.Strings.RuneCount
import Derived.Shelf.Strings.BuilderCap
import Derived.Shelf.Slices.CompactS
import Derived.Shelf.Slices.Cells
import Derived.Shelf.Slices.In.SortNone
import Derived.Ground.SlgnProg
import Derived.Shelf.SlicesG.Turned
import Derived.Shelf.SlicesG.SearchI
import Derived.Test.YtablhmobekmflaaGreatDoorProg
import Derived.Test.YtablhmobekmflaaGreatDoorCt11
import Derived.Test.YtablhmobekmflaaGreatDoorCt05
import Derived.Test.YtablhmobekmflaaGreatDoorCt12
import Derived.Lib.Join
set_option linter.unusedVariables false
set_option linter.unusedSimpArgs false
namespace Go.Proofs.YtablhmobekmflaaGreatDoor
section
open Go.RowKit
def TabU (w : World) : Prop := Lib.TabIs Tryz.prog w "internal/strconv.uint64pow10" .u64 Lib.pow10Tab
theorem TabU.ext {w w1 : World} (h : TabU w) (k : Ext w w1) : TabU w1 := by
 unfold TabU Lib.TabIs World.var? at *
 cases hg : Tryz.prog.globalNamed "internal/strconv.uint64pow10" with
 | none => rw [hg] at h; simp at h
 | some g =>
  rw [hg] at h
  simp only [Option.bind_some] at h ⊢
  cases hb : w.heap[g]? with
  | none => rw [hb] at h; simp at h
  | some o =>
   rw [k.block g (Array.getElem?_eq_some_iff.1 hb).1]
   exact h
def decB (n : Int) : ByteArray := ⟨(Lib.itoa n).toArray⟩
theorem fmtInt_any (n : Int) (w : World) (h0 : -9223372036854775808 ≤ n) (h1 : n ≤ 9223372036854775807) (ht : TabU w) : Calls Tryz.prog 189 #[.int .i64 n, .int .i64 10] w fun e w' => e = .returned (.string (decB n)) ∧ Ext w w' := by
 refine (Tryz.internal_strconv_FormatInt_10 n h0 h1 w ht).mono ?_
 rintro e w' ⟨rfl, k, os, rfl⟩
 exact ⟨rfl, (Extd.of_grow w k os).ext⟩
set_option maxHeartbeats 1000000 in
theorem Decimal_any (n : Int) (w : World) (h0 : -9223372036854775808 ≤ n) (h1 : n ≤ 9223372036854775807) (ht : TabU w) : Calls Tryz.prog 63 #[.int .i64 n] w fun e w' => e = .returned (.string (decB n)) ∧ Ext w w' := by
 have HF := Lib.hid (fmtInt_any n w h0 h1 ht)
 clear h0 h1 ht
 have HS : Hid (Calls Tryz.prog 124 #[.int .i64 n, .int .i64 10] w fun e w' => e = .returned (.string (decB n)) ∧ Ext w w') := by
  show Calls _ _ _ _ _
  go_enter Tryz.func124, Tryz.ntmps124
  go_wp2_with fail
  refine HF.out.mono ?_
  rintro e w1 ⟨rfl, hx⟩
  go_wp2_with fail
  go_ret
  exact ⟨rfl, hx⟩
 go_enter Tryz.func63, Tryz.ntmps63
 go_wp2_with fail
 refine HS.out.mono ?_
 rintro e w1 ⟨rfl, hx⟩
 go_wp2_with fail
 go_ret
 exact ⟨rfl, hx⟩
def wordN (p : Nat) (lost : Int) : ByteArray := if p = 0 then ⟨#[68, 82, 79, 80, 80, 69, 68]⟩ else if 1 < p then ⟨#[83, 80, 76, 73, 84]⟩ else if 0 < lost then ⟨#[83, 72, 79, 82, 84, 69, 78, 69, 68]⟩ else ⟨#[75, 69, 80, 84]⟩
set_option maxHeartbeats 1000000 in
theorem Word_any (r : ByteArray) (id : Int) (pA sA : Option Addr) (pn pc : Nat) (lost : Int) (sn sc : Nat) (w : World) :
 Calls Tryz.prog 64 #[.agg #[.string r, .int .i64 id, .slice pA pn pc, .int .i64 lost, .slice sA sn sc]] w fun e w' => e = .returned (.string (wordN pn lost)) ∧ Ext w w' := by
 have HX := Lib.hid ((Ext.refl w).alloc (.cells #[.string r, .int .i64 id, .slice pA pn pc, .int .i64 lost, .slice sA sn sc] 67))
 by_cases h0 : pn = 0
 · have g0 : ((pn : Int) == 0) = true := by simp; omega
   have HW : Hid (wordN pn lost = ⟨#[68, 82, 79, 80, 80, 69, 68]⟩) := if_pos h0
   clear h0
   go_enter Tryz.func64, Tryz.ntmps64
   go_wp2_with fail
   go_ret
   exact ⟨by rw [HW.out]; rfl, HX.out⟩
 have g0 : ((pn : Int) == 0) = false := by simp; omega
 by_cases h1 : 1 < pn
 · have g1 : decide ((pn : Int) > 1) = true := decide_eq_true (by omega)
   have g1' : decide ((1 : Int) < pn) = true := decide_eq_true (by omega)
   have HW : Hid (wordN pn lost = ⟨#[83, 80, 76, 73, 84]⟩) := (if_neg h0).trans (if_pos h1)
   clear h0 h1
   go_enter Tryz.func64, Tryz.ntmps64
   go_wp2_with fail
   go_ret
   exact ⟨by rw [HW.out]; rfl, HX.out⟩
 have g1 : decide ((pn : Int) > 1) = false := decide_eq_false (by omega)
 have g1' : decide ((1 : Int) < pn) = false := decide_eq_false (by omega)
 by_cases h2 : 0 < lost
 · have g2 : decide (lost > 0) = true := decide_eq_true h2
   have g2' : decide (0 < lost) = true := decide_eq_true h2
   have HW : Hid (wordN pn lost = ⟨#[83, 72, 79, 82, 84, 69, 78, 69, 68]⟩) := (if_neg h0).trans ((if_neg h1).trans (if_pos h2))
   clear h0 h1 h2
   go_enter Tryz.func64, Tryz.ntmps64
   go_wp2_with fail
   go_ret
   exact ⟨by rw [HW.out]; rfl, HX.out⟩
 · have g2 : decide (lost > 0) = false := decide_eq_false h2
   have g2' : decide (0 < lost) = false := decide_eq_false h2
   have HW : Hid (wordN pn lost = ⟨#[75, 69, 80, 84]⟩) := (if_neg h0).trans ((if_neg h1).trans (if_neg h2))
   clear h0 h1 h2
   go_enter Tryz.func64, Tryz.ntmps64
   go_wp2_with fail
   go_ret
   exact ⟨by rw [HW.out]; rfl, HX.out⟩
set_option maxHeartbeats 1000000 in
theorem State_any (r : ByteArray) (id : Int) (pA sA : Option Addr) (pn pc : Nat) (lost : Int) (sn sc : Nat) (w : World) :
 Calls Tryz.prog 67 #[.agg #[.string r, .int .i64 id, .slice pA pn pc, .int .i64 lost, .slice sA sn sc]] w fun e w' => e = .returned (.string (wordN pn lost)) ∧ Ext w w' := by
 have HX := Lib.hid ((Ext.refl w).alloc (.cells #[.string r, .int .i64 id, .slice pA pn pc, .int .i64 lost, .slice sA sn sc] 67))
 by_cases h0 : pn = 0
 · have g0 : ((pn : Int) == 0) = true := by simp; omega
   have HW : Hid (wordN pn lost = ⟨#[68, 82, 79, 80, 80, 69, 68]⟩) := if_pos h0
   clear h0
   go_enter Tryz.func67, Tryz.ntmps67
   go_wp2_with fail
   go_ret
   exact ⟨by rw [HW.out]; rfl, HX.out⟩
 have g0 : ((pn : Int) == 0) = false := by simp; omega
 by_cases h1 : 1 < pn
 · have g1 : decide ((pn : Int) > 1) = true := decide_eq_true (by omega)
   have g1' : decide ((1 : Int) < pn) = true := decide_eq_true (by omega)
   have HW : Hid (wordN pn lost = ⟨#[83, 80, 76, 73, 84]⟩) := (if_neg h0).trans (if_pos h1)
   clear h0 h1
   go_enter Tryz.func67, Tryz.ntmps67
   go_wp2_with fail
   go_ret
   exact ⟨by rw [HW.out]; rfl, HX.out⟩
 have g1 : decide ((pn : Int) > 1) = false := decide_eq_false (by omega)
 have g1' : decide ((1 : Int) < pn) = false := decide_eq_false (by omega)
 by_cases h2 : 0 < lost
 · have g2 : decide (lost > 0) = true := decide_eq_true h2
   have g2' : decide (0 < lost) = true := decide_eq_true h2
   have HW : Hid (wordN pn lost = ⟨#[83, 72, 79, 82, 84, 69, 78, 69, 68]⟩) := (if_neg h0).trans ((if_neg h1).trans (if_pos h2))
   clear h0 h1 h2
   go_enter Tryz.func67, Tryz.ntmps67
   go_wp2_with fail
   go_ret
   exact ⟨by rw [HW.out]; rfl, HX.out⟩
 · have g2 : decide (lost > 0) = false := decide_eq_false h2
   have g2' : decide (0 < lost) = false := decide_eq_false h2
   have HW : Hid (wordN pn lost = ⟨#[75, 69, 80, 84]⟩) := (if_neg h0).trans ((if_neg h1).trans (if_neg h2))
   clear h0 h1 h2
   go_enter Tryz.func67, Tryz.ntmps67
   go_wp2_with fail
   go_ret
   exact ⟨by rw [HW.out]; rfl, HX.out⟩
end
section
open Go.RowKit Go.ChangeShapes Go.WideShapes Go.ChangeAt
set_option maxRecDepth 100000
theorem env_of5 {W : World} (h : laidMet Tryz.prog [("math/bits.deBruijn32tab", Rows.laid_math_bits_deBruijn32tab), ("math/bits.deBruijn64tab", Rows.laid_math_bits_deBruijn64tab), ("internal/strconv.uint64pow10", Rows.laid_internal_strconv_uint64pow10), ("unicode/utf8.acceptRanges", Rows.laid_unicode_utf8_acceptRanges), ("unicode/utf8.first", Rows.laid_unicode_utf8_first)] W) (hs : W.ShapedOpen Tryz.prog) : Env W := by
 refine ⟨?_, ?_⟩
 · have h1 := Lib.laidMet.reads h (n := "unicode/utf8.first") (d := Rows.laid_unicode_utf8_first) (by simp)
   have h2 := Lib.laidMet.reads h (n := "unicode/utf8.acceptRanges") (d := Rows.laid_unicode_utf8_acceptRanges) (by simp)
   rw [first_same] at h1
   rw [accept_same] at h2
   exact utf8Tabs_of_readsT (U8Types.of196 Tryz.laysValid) u8extra h1 h2
 · obtain ⟨cs, hh, hz, hr⟩ := hs.1 2 #[.int .i64 0] 3 (of_decide_eq_true (by kernel_rfl)) (by kernel_rfl)
   obtain ⟨ts, hts, _, hall⟩ := hr (by kernel_rfl)
   have h1 : 0 < cs.size := by rw [hz]; decide
   have e : Tryz.prog.cellTypes Tryz.prog.depth 3 = some [3] := by kernel_rfl
   rw [e] at hts
   cases hts
   obtain ⟨u, hu', hok⟩ := hall 0 cs[0] (by simp [h1])
   have : u = 3 := by simpa using hu'.symm
   subst this
   have hcell : W.cell? ⟨2, 0, none⟩ = some cs[0] := by simp [World.cell?, hh, h1]
   rw [hcell]
   unfold Cell.ok at hok
   rw [Tryz.underlying3] at hok
   cases hv : cs[0] <;> rw [hv] at hok <;> first | (simp at hok; done) | skip
   rename_i k m
   simp at hok
   exact ⟨m, by rw [hok.1]⟩
theorem tab_of5 {W : World} (h : laidMet Tryz.prog [("math/bits.deBruijn32tab", Rows.laid_math_bits_deBruijn32tab), ("math/bits.deBruijn64tab", Rows.laid_math_bits_deBruijn64tab), ("internal/strconv.uint64pow10", Rows.laid_internal_strconv_uint64pow10), ("unicode/utf8.acceptRanges", Rows.laid_unicode_utf8_acceptRanges), ("unicode/utf8.first", Rows.laid_unicode_utf8_first)] W) : TabU W := by
 obtain ⟨g', t', cs, fuel, p, hg', ht', hvar, hd⟩ := Lib.laidMet.reads h (n := "internal/strconv.uint64pow10") (d := Rows.laid_internal_strconv_uint64pow10) (by simp)
 have e1 : (Rows.laid_internal_strconv_uint64pow10 : DataW Unit) = Lib.tabData .u64 Lib.pow10Tab := by kernel_rfl
 have hgg : Tryz.prog.globalNamed "internal/strconv.uint64pow10" = some 3 := by kernel_rfl
 obtain rfl := Option.some.inj (hgg.symm.trans hg')
 have hty : (Tryz.prog.globals[3]?).map (·.type) = some 304 := by kernel_rfl
 obtain rfl := Option.some.inj (hty.symm.trans ht')
 rw [e1] at hd
 have hc := Lib.cells_of_tab Tryz.underlying304 Tryz.underlying192 (by kernel_rfl) (by kernel_rfl) hd
 unfold TabU Lib.TabIs
 rw [hvar]
 exact congrArg some (Array.toList_inj.1 (by simpa using hc))
def litVals : List (DataW Unit) → List Value
 | .lit (.int k z) :: r => .int k z :: litVals r
 | _ => []
def aggVals : DataW Unit → List Value
 | .agg l => litVals l
 | _ => []
def layTab (d : DataW Unit) : Obj → Obj
 | .cells _ t frozen => .cells (aggVals d).toArray t frozen
 | o => o
noncomputable def laidWorld5 (os : Os) : World :=
 { laidWorld os with heap := (((laidWorld os).heap.modify 3 (layTab Rows.laid_internal_strconv_uint64pow10)).modify 4 (layTab Rows.laid_math_bits_deBruijn32tab)).modify 5 (layTab Rows.laid_math_bits_deBruijn64tab) }
def RDocInC (w : World) (b o : Nat) (d : RDoc) : Prop := ∃ h : DocH, (∀ j u, (d.cells h).toList[j]? = some u → w.cell? ⟨b, o + j, none⟩ = some u) ∧ DocAt w d.doc h ∧ DocIn d.doc h
theorem RDocInC.stays : Stays RDocInC := fun _ _ _ _ _ k ⟨h, h1, h2, h3⟩ => ⟨h, fun j u hu => k.cell (h1 j u hu), h2.ext k, h3⟩
def RDocsIn (w : World) (A : Option Addr) (n : Nat) (l : List RDoc) : Prop := Sl w 9 RDocInC A n l
theorem RDocsIn.ext {w w1 : World} {A : Option Addr} {n : Nat} {l : List RDoc} (h : RDocsIn w A n l) (k : Ext w w1) : RDocsIn w1 A n l := Sl.ext RDocInC.stays h k
theorem RDocsIn.at_cells {w : World} {A : Option Addr} {n : Nat} {l : List RDoc} (h : RDocsIn w A n l) {i : Nat} (hi : i < n) : ∃ b off d k, A = some ⟨b, off, none⟩ ∧ l[i]? = some d ∧ DocAt w d.doc k ∧ DocIn d.doc k ∧
 (w.cell? ⟨b, off + i * 9, none⟩ = some (.string d.reel) ∧ w.cell? ⟨b, off + i * 9 + 1, none⟩ = some (.string d.doc.title) ∧ w.cell? ⟨b, off + i * 9 + 2, none⟩ = some (.string d.doc.lang) ∧ w.cell? ⟨b, off + i * 9 + 3, none⟩ = some (.int .u8 d.doc.rate) ∧
  w.cell? ⟨b, off + i * 9 + 4, none⟩ = some (.bool d.doc.drop) ∧ w.cell? ⟨b, off + i * 9 + 5, none⟩ = some (.int .i64 d.doc.last) ∧ w.cell? ⟨b, off + i * 9 + 6, none⟩ = some (.slice k.ra k.rn k.rc) ∧ w.cell? ⟨b, off + i * 9 + 7, none⟩ = some (.slice k.ea k.en k.ec) ∧ w.cell? ⟨b, off + i * 9 + 8, none⟩ = some (.slice k.ca k.cn k.cc)) := by
 obtain ⟨b, off, d, hA, hd, k, hC, h1, h2⟩ := h.at_ hi
 exact ⟨b, off, d, k, hA, hd, h1, h2, by simpa using hC 0 _ rfl, hC 1 _ rfl, hC 2 _ rfl, hC 3 _ rfl, hC 4 _ rfl, hC 5 _ rfl, hC 6 _ rfl, hC 7 _ rfl, hC 8 _ rfl⟩
theorem RDocsIn.docs {w : World} {A : Option Addr} {n : Nat} {l : List RDoc} (h : RDocsIn w A n l) (hr : ∀ d ∈ l, d.doc.regs.length ≤ 1000000) : RDocsAt w A n l := by
 refine ⟨h.1, fun hn => ?_⟩
 obtain ⟨b, off, hA, hC⟩ := h.2 hn
 refine ⟨b, off, hA, fun i d hd => ?_⟩
 obtain ⟨k, h1, h2, h3⟩ := hC i d hd
 exact ⟨k, h1, h2, by have := hr d (List.mem_of_getElem? hd); have := h2.regs.len; omega, h3.en, h3.cn⟩
theorem RDocsIn.fit {w : World} {A : Option Addr} {n : Nat} {l : List RDoc} (h : RDocsIn w A n l) : ∀ d ∈ l, DocFit d.doc := by
 intro d hd
 obtain ⟨i, hi⟩ := List.getElem?_of_mem hd
 have hlt : i < n := by have := h.1; have := (List.getElem?_eq_some_iff.1 hi).1; omega
 obtain ⟨_, _, d', _, _, hd', _, hin, _⟩ := h.at_cells hlt
 rw [hi] at hd'
 cases hd'
 exact hin.fit
theorem cells_fate : Tryz.prog.cellsOf 67 = 5 := by kernel_rfl
theorem bytes_fate : Tryz.prog.bytesOf 67 = 80 := by kernel_rfl
theorem bytes_i64 : Tryz.prog.bytesOf 2 = 8 := by kernel_rfl
theorem cells_ints : Tryz.prog.cellsOf 65 = 1 := by kernel_rfl
theorem openK_ints (W : World) : OpensK Tryz.prog W 65 (fun _ cs (l : List Int) => ∃ A c, cs = [.slice A l.length c] ∧ IntA W A l.length l ∧ l.length ≤ c ∧ l.length ≤ 4611686018427387904) := by
 intro H enc fuel cs x h hw
 obtain ⟨A, n, c, l, hc, hnc, hcm, hb, hs, _⟩ := OpensK.slice Tryz.underlying65 cells_int64 (by decide) bytes_i64 (R := fun _ cs (a : Int) => cs = [.int .i64 a] ∧ (Lit.int .i64 a).wf = true) (.of (Opens.int Tryz.underlying2)) h hw
 have hln : l.length = n := hs.1
 refine ⟨l.map (fun p : Int × Nat => p.1), A, c, ?_, ?_, ?_, ?_⟩
 · rw [hc, List.length_map, hln]
 · rw [List.length_map, hln]
   refine Sl.mapK (D := Cells intV) hs fun b o p hm => ?_
   obtain ⟨cs, h1, h2, _⟩ := hm
   subst h2
   exact h1
 · rw [List.length_map]; omega
 · rw [List.length_map]; simp only [reachBytes] at hb; omega
theorem openK_fate (W : World) : OpensK Tryz.prog W 67 (fun k cs (f : Fat) => (∃ pA pc sA sc, cs = [Value.string f.reel, .int .i64 f.id, .slice pA f.parts.length pc, .int .i64 f.lost, .slice sA f.short.length sc] ∧ IntA W pA f.parts.length f.parts ∧ IntA W sA f.short.length f.short ∧ f.parts.length ≤ pc ∧ f.short.length ≤ sc) ∧
 f.reel.size + 1 ≤ k ∧ IW f.id ∧ IW f.lost ∧ f.parts.length ≤ 4611686018427387904 ∧ f.short.length ≤ 4611686018427387904) := by
 intro H enc fuel cs x h hw
 obtain ⟨hl, ks, hks, hkl, hf⟩ := OpensK.fields Tryz.underlying67 h hw
 rw [cells_fate] at hl
 obtain ⟨v0, v1, v2, v3, v4, rfl⟩ := list_5 hl
 obtain ⟨k0, k1, k2, k3, k4, rfl⟩ := list_5 (show ks.length = 5 from hkl)
 obtain ⟨a0, h0, s0⟩ := hf 0 _ rfl (OpensK.string Tryz.underlying9)
 obtain ⟨a1, h1, s1⟩ := hf 1 _ rfl (.of (Opens.int Tryz.underlying2))
 obtain ⟨a2, A2, c2, h2, g2, l2, b2⟩ := hf 2 _ rfl (openK_ints W)
 obtain ⟨a3, h3, s3⟩ := hf 3 _ rfl (.of (Opens.int Tryz.underlying2))
 obtain ⟨a4, A4, c4, h4, g4, l4, b4⟩ := hf 4 _ rfl (openK_ints W)
 simp [cells_int64, cells_string, cells_ints] at h0 h1 h2 h3 h4 s0 hks
 subst h0 h1 h2 h3 h4
 exact ⟨⟨a0, a1, a2, a3, a4⟩, ⟨A2, c2, A4, c4, rfl, g2, g4, l2, l4⟩, by simp only; omega, bounds_i64 s1, bounds_i64 s3, b2, b4⟩
structure FatsIn (l : List Fat) : Prop where
 fit : FatsFit l
 id : ∀ f ∈ l, IW f.id
 lost : ∀ f ∈ l, IW f.lost
 reel : ∀ f ∈ l, f.reel.size ≤ 1048576
theorem argK_fates {H : Type} {enc : TypeId × Value → H} {W : World} {base : Nat} {v : Value} {d : DataW H} {p : List MemPlace} (hv : Value.okWide Tryz.prog W .any base 53 v) (h : DataW.Trod enc Tryz.prog W 0 (fun _ => true) true 53 v d p)
 (hw : ∀ n ∈ d.weights Tryz.prog 53, n ≤ reachBytes) (hk : Rows.uptoBulk d ≤ 1048576) : ∃ A n c l, v = .slice A n c ∧ FatsAt W A n l ∧ FatsIn l := by
 obtain ⟨fuel, h⟩ := h
 obtain ⟨A, n, c, l, hc, hnc, hcm, hb, hs, hbk⟩ := OpensK.slice Tryz.underlying53 cells_fate (by decide) bytes_fate (openK_fate W) h hw
 dsimp only at hbk
 have hv' : v = .slice A n c := by
  unfold Value.okWide at hv
  rw [Tryz.underlying53] at hv
  cases v <;> simp [Value.cells] at hc <;> first | (obtain ⟨h1, h2, h3⟩ := hc; subst h1 h2 h3; rfl) | (simp [Cell.okWide, Tryz.underlying53, Cell.ok] at hv)
 have hall := hs.all (p := fun p : Fat × Nat => p.1.reel.size + 1 ≤ p.2 ∧ IW p.1.id ∧ IW p.1.lost ∧ p.1.parts.length ≤ 4611686018427387904 ∧ p.1.short.length ≤ 4611686018427387904) (fun b o q hm => by obtain ⟨_, _, _, h3⟩ := hm; exact h3)
 have hall' : ∀ f ∈ l.map (fun p : Fat × Nat => p.1), f.reel.size ≤ 1048576 ∧ IW f.id ∧ IW f.lost ∧ f.parts.length ≤ 4611686018427387904 ∧ f.short.length ≤ 4611686018427387904 := fun f hf => by
  obtain ⟨q, hq, rfl⟩ := List.mem_map.1 hf
  obtain ⟨h1, h2⟩ := hall q hq
  have h5 := mem_le hq
  exact ⟨by omega, h2⟩
 refine ⟨A, n, c, l.map (fun p : Fat × Nat => p.1), hv', Sl.mapK (D := FatC) hs fun b o p hm => ?_, ⟨fun f hf => (hall' f hf).2.2.2.1, fun f hf => (hall' f hf).2.2.2.2⟩, fun f hf => (hall' f hf).2.1, fun f hf => (hall' f hf).2.2.1, fun f hf => (hall' f hf).1⟩
 obtain ⟨cs, h1, ⟨pA, pc, sA, sc, h2, h3, h4, h5, h6⟩, _⟩ := hm
 subst h2
 exact ⟨pA, pc, sA, sc, h1, h3, h4, h5, h6⟩
end
section
open Go.RowKit
def EqRel {α : Type} (w : World) (n : Nat) (l1 l2 : List α) (i : Value) (wr : World) : Prop := ∃ k : Nat, k ≤ n ∧ i = .int .i64 k ∧ Ext w wr ∧ l1.take k = l2.take k
end
section
open Go.RowKit
end
section
open Go.RowKit
end
section
open Go.RowKit
set_option maxRecDepth 100000 in
set_option maxHeartbeats 4000000 in
theorem ROrigin_any (A : Option Addr) (n c : Nat) (l : List Fat) (id : Int) (w : World) (hl : FatsAt w A n l) (hn : n ≤ 1000000) (hf : FatsFit l) :
 Calls Tryz.prog 28 #[.slice A n c, .int .i64 id] w fun e w' => e = .returned (.tuple #[.string (orig l id).1, .int .i64 (orig l id).2.1, .bool (orig l id).2.2]) ∧ Ext w w' := by
 have HL := Lib.hid hl
 have HLn := Lib.hid hl.len
 have HF := Lib.hid hf
 clear hl hf
 go_enter Tryz.func28, Tryz.ntmps28
 go_wp2_with fail
 go_loopw [13] (fun i wr => OrRel w n l id i wr) (fun i _ => n - (intOf i).toNat)
 case atStart => exact ⟨0, Nat.zero_le _, rfl, Ext.refl _, by simp⟩
 case round =>
  obtain ⟨k, hk, rfl, hx, hp⟩ := hrel
  have HX := Lib.hid hx
  have HP := Lib.hid hp
  clear hx hp
  by_cases hlt : k < n
  · obtain ⟨b, off, f, pA, pc, sA, sc, rfl, hfk, hP1, -, c0, c1, c2, c3, c4⟩ := (HL.out.ext HX.out).at5 hlt
    have HD := Lib.hid (orig_drop (id := id) hfk)
    have HBf := Lib.hid (Blk.new wr 67 #[.string f.reel, .int .i64 f.id, .slice pA f.parts.length pc, .int .i64 f.lost, .slice sA f.short.length sc])
    have HXf := Lib.hid ((Ext.refl wr).alloc (.cells #[.string f.reel, .int .i64 f.id, .slice pA f.parts.length pc, .int .i64 f.lost, .slice sA f.short.length sc] 67))
    have HPa := Lib.hid (hP1.ext HXf.out)
    have hnb := HF.out.parts f (List.mem_of_getElem? hfk)
    clear hfk hP1
    obtain ⟨np, hnp⟩ : ∃ np, np = f.parts.length := ⟨_, rfl⟩
    have HNp := Lib.hid hnp
    rw [← hnp] at HBf HXf HPa c2 hnb
    clear hnp
    go_upto_region 4 with fail
    obtain ⟨gx, hgx⟩ : ∃ gx, gx = wr.heap.size := ⟨_, rfl⟩
    obtain ⟨w2, hw2⟩ : ∃ w2, w2 = wr.alloc (.cells #[.string f.reel, .int .i64 f.id, .slice pA np pc, .int .i64 f.lost, .slice sA f.short.length sc] 67) := ⟨_, rfl⟩
    rw [← hgx] at HBf
    rw [← hw2] at HBf HXf HPa ⊢
    rw [← hgx]
    clear hw2 hgx c0 c1 c2 c3 c4
    have b2 := HBf.out.cell 2
    simp only [List.getElem?_toArray, List.getElem?_cons_zero, List.getElem?_cons_succ] at b2
    go_wp2_with fail
    clear b2
    go_loopw [20] (fun i wq => NiRel w2 np f.parts id i wq) (fun i _ => np - (intOf i).toNat)
    case atStart => exact ⟨0, Nat.zero_le _, rfl, Ext.refl _, by simp⟩
    case round =>
     obtain ⟨j, hj, rfl, hxq, hpq⟩ := hrel
     have HXq := Lib.hid hxq
     have HPq := Lib.hid hpq
     clear hxq hpq
     by_cases hjt : j < np
     · obtain ⟨b3, off3, y, hA3, hy, d0⟩ := (HPa.out.ext HXq.out).at1 hjt
       subst hA3
       have HS := Lib.hid (nIx_step hy HPq.out)
       have HMem := Lib.hid (List.mem_of_getElem? hy)
       clear hy
       by_cases hq : y = id
       · have g1 : (y == id) = true := by simpa using hq
         have HR : Hid (orig l id = (f.reel, f.id, true)) := by show _ = _; rw [HP.out, HD.out, if_pos (by rw [← hq]; exact HMem.out)]
         have hcl := fun o => (HBf.out.ext HXq.out).cell o
         clear hq
         go_wp2_with fail
         go_quiet (fail)
         go_wp2_with fail
         go_ret3
         exact ⟨by rw [HR.out]; rfl, (HX.out.trans (HXf.out.trans HXq.out)).drewN _⟩
       · have g1 : (y == id) = false := by simpa using hq
         have HT := Lib.hid (HS.out.2 hq)
         clear hq
         go_wp2_with fail
         exact ⟨⟨j + 1, by omega, by go_num, HXq.out, HT.out⟩, by simp [intOf]; omega⟩
     · have hjn : j = np := by omega
       have HR : Hid (orig l id = orig (l.drop (k + 1)) id) := by
        show _ = _
        rw [HP.out, HD.out, if_neg]
        intro hm
        exact HPq.out id (by rwa [List.take_of_length_le (by have := HNp.out; omega)]) rfl
       subst hjn
       go_wp2_with fail
       exact ⟨⟨k + 1, by omega, by go_num, HX.out.trans (HXf.out.trans HXq.out), HR.out⟩, by simp [intOf]; omega⟩
  · have hkn : k = n := by omega
    subst hkn
    have HR : Hid (orig l id = (⟨#[]⟩, 0, false)) := by show _ = _; rw [HP.out, List.drop_eq_nil_of_le (by have := HLn.out; omega)]; rfl
    go_wp2_with fail
    go_ret3
    exact ⟨by rw [HR.out]; rfl, HX.out⟩
def NumRel (w : World) (n : Nat) (a b : List Int) (i : Value) (wr : World) : Prop := ∃ k : Nat, k ≤ n ∧ i = .int .i64 k ∧ Ext w wr ∧ a.take k = b.take k
end
end Go.Proofs.YtablhmobekmflaaGreatDoor
namespace Go.Proofs
open Go.Shelf
def Tryz.lays156_ren : Go.Shelf.Ren := ⟨fun | 156 => 62 | 165 => 123 | 166 => 61 | 169 => 65 | 240 => 122 | 241 => 188 | 276 => 187 | 277 => 233 | n => n, fun | 31 => 130 | 9 => 9 | 3 => 3 | 4 => 4 | 0 => 0 | 20 => 20 | 72 => 122 | 76 => 125 | 70 => 119 | 37 => 120 | 75 => 124 | 127 => 191 | 164 => 240 | 5 => 5 | 80 => 131 | n => n, fun | n => n⟩
theorem Tryz.lays156 : Go.Proofs.Lays.n156 Tryz.prog Tryz.lays156_ren := {
 mixed := by kernel_rfl
 f156 := Tryz.func62.trans (congrArg some (by kernel_rfl))
 f165 := Tryz.func123.trans (congrArg some (by kernel_rfl))
 f166 := Tryz.func61.trans (congrArg some (by kernel_rfl))
 f169 := Tryz.func65.trans (congrArg some (by kernel_rfl))
 f240 := Tryz.func122.trans (congrArg some (by kernel_rfl))
 f241 := Tryz.func188.trans (congrArg some (by kernel_rfl))
 f276 := Tryz.func187.trans (congrArg some (by kernel_rfl))
 f277 := Tryz.func233.trans (congrArg some (by kernel_rfl))
 t0 := Tryz.underlying0
 a0 := Tryz.isAgg0
 z0 := Tryz.sizeOf0
 v0 := Tryz.zeroValue0
 t3 := Tryz.underlying3
 a3 := Tryz.isAgg3
 z3 := Tryz.sizeOf3
 v3 := Tryz.zeroValue3
 t4 := Tryz.underlying4
 a4 := Tryz.isAgg4
 z4 := Tryz.sizeOf4
 v4 := Tryz.zeroValue4
 t9 := Tryz.underlying9
 a9 := Tryz.isAgg9
 z9 := Tryz.sizeOf9
 v9 := Tryz.zeroValue9
 t20 := Tryz.underlying20
 a20 := Tryz.isAgg20
 z20 := Tryz.sizeOf20
 v20 := Tryz.zeroValue20
 t31 := Tryz.underlying130
 a31 := Tryz.isAgg130
 z31 := Tryz.sizeOf130
 v31 := Tryz.zeroValue130
 t37 := Tryz.underlying120
 a37 := Tryz.isAgg120
 z37 := Tryz.sizeOf120
 v37 := Tryz.zeroValue120
 t70 := Tryz.underlying119
 a70 := Tryz.isAgg119
 z70 := Tryz.sizeOf119
 v70 := Tryz.zeroValue119
 t72 := Tryz.underlying122
 a72 := Tryz.isAgg122
 z72 := Tryz.sizeOf122
 v72 := Tryz.zeroValue122
 t75 := Tryz.underlying124
 a75 := Tryz.isAgg124
 z75 := Tryz.sizeOf124
 v75 := Tryz.zeroValue124
 t76 := Tryz.underlying125
 a76 := Tryz.isAgg125
 z76 := Tryz.sizeOf125
 v76 := Tryz.zeroValue125
 t127 := Tryz.underlying191
 a127 := Tryz.isAgg191
 z127 := Tryz.sizeOf191
 v127 := Tryz.zeroValue191
 t164 := Tryz.underlying240
 a164 := Tryz.isAgg240
 z164 := Tryz.sizeOf240
 v164 := Tryz.zeroValue240 }
theorem Tryz.Builder_Extra_156 : Builder.Extra Tryz.prog Tryz.lays156_ren := {
 sizeBuilder := by kernel_rfl
 liesBuilder := by kernel_rfl
 t5 := Tryz.underlying5
 a5 := Tryz.isAgg5
 z5 := Tryz.sizeOf5
 v5 := Tryz.zeroValue5
 infoByte := by kernel_rfl
 cellsByte := by kernel_rfl
 sizeByte := by kernel_rfl
 neB5 := by decide }
open Go.RowKit in
open Go.RowKit in
theorem Tryz.strings_Join (bk o c : Nat) (xs : List ByteArray) (sep : ByteArray) (w : World) (hcells : ∀ (j : Nat) x, xs[j]? = some x → w.cell? ⟨bk, o + j, none⟩ = some (.string x)) (hbk : bk < w.heap.size) (hN : xs.length ≤ 140737488355328) (hcap : xs.length ≤ c) (hlen : (Lib.join (xs.map (·.data.toList)) sep.data.toList).length ≤ 140737488355328) :
 Calls Tryz.prog 62 #[.slice (some ⟨bk, o, none⟩) xs.length c, .string sep] w fun e w' => e = .returned (.string ⟨(Lib.join (xs.map (·.data.toList)) sep.data.toList).toArray⟩) ∧ Below w.heap.size w w' := Any.strings_Join Tryz.lays156 Tryz.Builder_Extra_156 bk o c xs sep w hcells hbk hN hcap hlen
end Go.Proofs
namespace Go.Proofs.YtablhmobekmflaaGreatDoor
section
open Go.RowKit
theorem copyCheck_kb (B b : Nat) (bs : List Value) (w : World) (h : Lib.IsBuilder 122 5 B b bs w) :
 Calls Tryz.prog 122 #[.pointer (some ⟨b, 0, none⟩)] w fun e w' => e = .returned (.tuple #[]) ∧ (Lib.BuilderAt 122 5 B b (.pointer (some ⟨b, 0, none⟩)) bs w' ∧ Below B w w' ∧ KB 67 w w') := by
 rcases h with h | h
 · refine (copyCheck_fresh b w h.cell0 h.shape h.frozen0).mono ?_
   rintro e w' ⟨rfl, rfl⟩
   obtain ⟨-, v, hb, -⟩ := h.2
   exact ⟨rfl, h.used _, (Below.refl B w).setCell (p := ⟨b, 0, none⟩) h.1 _, KB.set (T' := 122) ⟨_, h.2.choose_spec.1⟩ (by decide)⟩
 · refine (copyCheck_used b w h.cell0).mono ?_
   rintro e w' ⟨rfl, rfl⟩
   exact ⟨rfl, h, Below.refl B _, KB.refl _⟩
set_option maxHeartbeats 2000000 in
set_option maxRecDepth 100000 in
theorem WriteString_kb (B b : Nat) (bs : List Value) (s : ByteArray) (w : World) (h : Lib.IsBuilder 122 5 B b bs w) (hlen : bs.length + s.size ≤ 140737488355328) (hBw : B ≤ w.heap.size) :
 Calls Tryz.prog 61 #[.pointer (some ⟨b, 0, none⟩), .string s] w fun e w' => e = .returned (.tuple #[.int .i64 s.size, .nilIface]) ∧ (Lib.BuilderAt 122 5 B b (.pointer (some ⟨b, 0, none⟩)) (bs ++ Lib.strCells s) w' ∧ Below B w w' ∧ KB 67 w w') := by
 obtain ⟨i0, hi, hz0, hz1, hz2⟩ := info_parts info_byte
 go_enter Tryz.func61, Tryz.ntmps61
 go_wp2_with fail
 refine (copyCheck_kb B b bs _ h).mono ?_
 rintro e w1 ⟨rfl, h1, hb1, hk1⟩
 have HK1 := Lib.hid hk1
 clear hk1
 obtain ⟨hB, v, hbk, hown, hne⟩ := h1
 have c0 : w1.cell? ⟨b, 0, none⟩ = some (.pointer (some ⟨b, 0, none⟩)) := by rw [Lib.cell_of_heap hbk]; rfl
 have c1 : w1.cell? ⟨b, 1, none⟩ = some v := by rw [Lib.cell_of_heap hbk]; rfl
 go_wp2_with (at_builtin; refine Lib.wpList_append_own_string _ rfl _ _ 120 9 rfl B 5 i0 Tryz.underlying120 Tryz.underlying9 hi hz0 hz1 hz2 _ _ _ rfl hown s rfl ?c3 ?c4 ?c5 ?_)
 case c3 => unfold maxLen; omega
 case c4 => omega
 case c5 => have := hb1.size; omega
 intro v' w2 hown' hgrow _
 have hlt : b < w1.heap.size := (Array.getElem?_eq_some_iff.1 hbk).1
 have hb2 : w2.heap[b]? = some (.cells #[.pointer (some ⟨b, 0, none⟩), v] 122 (0, 0)) := by
  rw [hgrow.block b hlt (fun e => hne e.symm)]
  exact hbk
 have HK2 : Hid (KB 67 w1 w2) := KB.grown hgrow (own_typed hown) (by decide)
 have d0 : w2.cell? ⟨b, 0, none⟩ = some (.pointer (some ⟨b, 0, none⟩)) := by rw [Lib.cell_of_heap hb2]; rfl
 have d1 : w2.cell? ⟨b, 1, none⟩ = some v := by rw [Lib.cell_of_heap hb2]; rfl
 have f1 : w2.frozen? ⟨b, 1, none⟩ = false := Lib.frozen_of_heap hb2 1
 obtain ⟨ao, n', cap, rfl⟩ : ∃ ao n' cap, v' = .slice ao n' cap := by
  rcases hown'.2 with ⟨hv, _⟩ | ⟨g, cap, cur, hv, _⟩
  · exact ⟨_, _, _, hv⟩
  · exact ⟨_, _, _, hv⟩
 go_wp2
 go_ret2
 refine ⟨rfl, ?_, ?_, ?_⟩
 · exact Lib.BuilderAt.put (T := 122) (e := 5) hB hb2 (bs' := bs ++ Lib.strCells s) (by simpa [Lib.strCells_length] using hown') (by decide)
 · exact (hb1.grown hgrow (by have := hb1.size; omega) (fun k hk => (hown.lt k hk).1)).setCell (p := ⟨b, 1, none⟩) hB _
 · exact (HK1.out.trans HK2.out).trans (KB.set (T' := 122) ⟨_, hb2⟩ (by decide))
end
section
open Go.RowKit
def lineW (f : Fat) : List ByteArray := [f.reel, decB f.id, wordN f.parts.length f.lost, decB f.parts.length, decB f.lost, decB f.short.length]
def lineJ (f : Fat) : ByteArray := ⟨(Lib.join ((lineW f).map (·.data.toList)) [32]).toArray⟩
def lineF (f : Fat) : ByteArray := lineJ f ++ ⟨#[10]⟩
def textF (l : List Fat) : List UInt8 := l.flatMap fun f => (lineF f).data.toList
theorem textF_snoc {l : List Fat} {k : Nat} {f : Fat} (h : l[k]? = some f) : textF (l.take (k + 1)) = textF (l.take k) ++ (lineF f).data.toList := by
 unfold textF
 rw [take_snoc' _ _ _ h, List.flatMap_append]; simp
theorem textF_len (l : List Fat) (k : Nat) : (textF (l.take k)).length ≤ (textF l).length := by
 have h : textF l = textF (l.take k) ++ textF (l.drop k) := by unfold textF; rw [← List.flatMap_append, List.take_append_drop]
 rw [h, List.length_append]
 omega
structure FatsTx (l : List Fat) : Prop where
 id : ∀ f ∈ l, -9223372036854775808 ≤ f.id ∧ f.id ≤ 9223372036854775807
 lost : ∀ f ∈ l, -9223372036854775808 ≤ f.lost ∧ f.lost ≤ 9223372036854775807
 fit : FatsFit l
 few : (textF l).length ≤ 140737488355328
structure TxJ (B b : Nat) (bs : List Value) (V : List Value) (cells : Array Value) (line : ByteArray) (W : World) (us : List Value) (w' : World) : Prop where
 val : ∀ (p : Nat) (u : Value), us[p]? = some u → p ≠ 5 → V[p]? = some u
 ext : us.length ≤ 7 → Ext W w'
 sl : us.length = 6 → ∃ g, us[5]? = some (.slice (some ⟨g, 0, none⟩) 6 6) ∧ Blk w' g 9 cells
 fin : us.length = 8 → ∃ w5, Ext W w5 ∧ Lib.BuilderAt 122 5 B b (.pointer (some ⟨b, 0, none⟩)) (bs ++ Lib.strCells line) w' ∧ Below B w5 w' ∧ KB 67 w5 w'
 len : us.length ≤ 8
section
variable {B b : Nat} {bs V : List Value} {cells : Array Value} {line : ByteArray} {W w' w2 : World} {us : List Value} {v : Value}
theorem TxJ.start (W : World) : TxJ B b bs V cells line W [] W.drew := ⟨fun p u h => by simp at h, fun _ => (Ext.refl W).drew, fun h => by simp at h, fun h => by simp at h, by simp⟩
theorem snoc_val {us V : List Value} {v : Value} (h : ∀ (p : Nat) (u : Value), us[p]? = some u → p ≠ 5 → V[p]? = some u) (hv : us.length ≠ 5 → V[us.length]? = some v) : ∀ (p : Nat) (u : Value), (us ++ [v])[p]? = some u → p ≠ 5 → V[p]? = some u := fun p u hu hp => by
 by_cases hlt : p < us.length
 · rw [List.getElem?_append_left hlt] at hu; exact h p u hu hp
 · have : p = us.length := by
    have := (List.getElem?_eq_some_iff.1 hu).1
    simp at this
    omega
   subst this
   rw [List.getElem?_append_right (Nat.le_refl _)] at hu
   simp at hu
   subst hu
   exact hv hp
theorem TxJ.call (h : TxJ B b bs V cells line W us w') (hl : us.length ≤ 4 ∨ us.length = 6) (hx : Ext w' w2) (hv : V[us.length]? = some v) : TxJ B b bs V cells line W (us ++ [v]) w2 :=
 ⟨snoc_val h.val (fun _ => hv), fun _ => (h.ext (by omega)).trans hx, fun hl' => by simp at hl'; omega, fun hl' => by simp at hl'; omega, by simp; omega⟩
theorem TxJ.build (h : TxJ B b bs V cells line W us w') (hl : us.length = 5) : TxJ B b bs V cells line W (us ++ [.slice (some ⟨w'.heap.size, 0, none⟩) 6 6]) (w'.alloc (.cells cells 9)) :=
 ⟨snoc_val h.val (fun h => absurd hl h), fun _ => (h.ext (by omega)).alloc _, fun _ => ⟨_, by rw [List.getElem?_append_right (by omega), hl]; rfl, Blk.new w' _ _⟩, fun hl' => by simp at hl'; omega, by simp; omega⟩
theorem TxJ.write (h : TxJ B b bs V cells line W us w') (hl : us.length = 7) (hv : V[7]? = some v) (hb : Lib.BuilderAt 122 5 B b (.pointer (some ⟨b, 0, none⟩)) (bs ++ Lib.strCells line) w2) (hx : Below B w' w2) (hk : KB 67 w' w2) : TxJ B b bs V cells line W (us ++ [v]) w2 :=
 ⟨snoc_val h.val (fun _ => by rw [hl]; exact hv), fun hl' => by simp at hl'; omega, fun hl' => by simp at hl'; omega, fun _ => ⟨w', h.ext (by omega), hb, hx, hk⟩, by simp; omega⟩
theorem TxJ.fate {g : Nat} {cs : Array Value} (h : TxJ B b bs V cells line W us w') (hB : Blk W g 67 cs) : Blk w' g 67 cs := by
 by_cases hl : us.length ≤ 7
 · exact hB.ext (h.ext hl)
 · obtain ⟨w5, a, -, -, k⟩ := h.fin (by have := h.len; omega)
   exact (hB.ext a).kb k
end
theorem isBuilder_ext {T e : TypeId} {B b : Nat} {bs : List Value} {w w1 : World} (h : Lib.IsBuilder T e B b bs w) (k : Ext w w1) : Lib.IsBuilder T e B b bs w1 := by
 have key : ∀ p, Lib.BuilderAt T e B b p bs w → Lib.BuilderAt T e B b p bs w1 := fun p ⟨hB, v, hb, hown, hne⟩ =>
  ⟨hB, v, (k.block b (Array.getElem?_eq_some_iff.1 hb).1).trans hb, own_ext hown k, hne⟩
 exact h.elim (fun x => .inl (key _ x)) (fun x => .inr (key _ x))
def TxRel (w : World) (n : Nat) (l : List Fat) (i : Value) (wr : World) : Prop :=
 ∃ k : Nat, k ≤ n ∧ i = .int .i64 k ∧ Ext w wr ∧ w.heap.size < wr.heap.size ∧ Lib.IsBuilder 122 5 w.heap.size w.heap.size (Lib.byteCells (textF (l.take k))) wr
theorem wp_concat {P : Program} {o : Oper} {a : Act} {w : World} {K : Act → World → Prop} {Q : Exit → Act → World → Prop} {t t' : TypeId} {x y : Operand} {s u : ByteArray} (ho : o.op = .binOp .add t x y t') (hx : a.eval x = .string s) (hy : a.eval y = .string u) (hl : ¬ (9223372036854775807 : Int) < (s.size : Int) + u.size) (h : K (a.put o.dst (.string (s ++ u))) w) : o.wp P a w K Q := by
 unfold Oper.wp execOp
 simp only [ho, hx, hy]
 simp [eqGuard, binOp, Op.stringOp]
 rw [if_neg hl]
 exact h
theorem size_fateI : (Tryz.prog.info? 67).map (·.size) = some 5 := by kernel_rfl
theorem wp_call2P {P : Program} {o : Oper} {a : Act} {w : World} {K : Act → World → Prop} {Q : Exit → Act → World → Prop} {f : FuncId} {x y : Operand} {ts : Array TypeId} {v u : Value} (ho : o.op = .call { callee := .value (.func f), args := #[x, y], argTypes := ts }) (hx : a.eval x = v) (hy : a.eval y = u)
 (hent : ∀ args w, (callFunc f args).run P w = .ok (.enter f args) w) {R : Ending → World → Prop} (hc : Calls P f #[v, u] w R) (h : ∀ en w', R en w' → ∃ r, en = .returned r ∧ K (a.put o.dst r) w') : o.wp P a w K Q := by
 have h2 : Calls P f #[v, u] w (fun
  | .returned u, w'' => K (a.put o.dst u) w''
  | .panicked chain, w'' => Q (.panic chain) a w''
  | .outgrown, _ => LetsOut Q) := hc.mono fun en w' hr => by
  obtain ⟨u, rfl, hk⟩ := h en w' hr
  exact hk
 unfold Oper.wp execOp
 simp only [ho]
 have hev : a.eval (.func f) = .func (.func f) #[] #[] := rfl
 simp [resolve, invoke, hev, hx, hy, hent, Sem.run_bind, Deferred.ofValue]
 exact h2
set_option maxRecDepth 100000 in
set_option maxHeartbeats 8000000 in
theorem Text_any (A : Option Addr) (n c : Nat) (l : List Fat) (w : World) (hl : FatsAt w A n l) (hn : n ≤ 1000000) (hf : FatsTx l) (ht : TabU w) :
 Calls Tryz.prog 29 #[.slice A n c] w fun e w' => e = .returned (.string ⟨(textF l).toArray⟩) ∧ Ext w w' := by
 have HL := Lib.hid hl
 have HLn := Lib.hid hl.len
 have HF := Lib.hid hf
 have HT0 := Lib.hid ht
 clear hl hf ht
 go_enter Tryz.func29, Tryz.ntmps29
 go_wp2_with fail
 go_loopw [8] (fun i wr => TxRel w n l i wr) (fun i _ => n - (intOf i).toNat)
 case atStart =>
  refine ⟨0, Nat.zero_le _, rfl, (Ext.refl _).alloc _, by simp, .inl ⟨Nat.le_refl _, .slice none 0 0, ?_, ⟨rfl, .inl ⟨rfl, rfl⟩⟩, by simp [Value.ownBlock]⟩⟩
  exact Blk.new' (w := w) (by simp)
 case round =>
  obtain ⟨k, hk, rfl, hx, hsz, hbd⟩ := hrel
  have HX := Lib.hid hx
  have HB := Lib.hid hbd
  clear hx hbd
  by_cases hlt : k < n
  · obtain ⟨b, off, f, pA, pc, sA, sc, rfl, hfk, -, -, c0, c1, c2, c3, c4⟩ := (HL.out.ext HX.out).at5 hlt
    have HTx := Lib.hid (textF_snoc hfk)
    have hmem := List.mem_of_getElem? hfk
    have hid := HF.out.id f hmem
    have hlo := HF.out.lost f hmem
    have hp1 := HF.out.fit.parts f hmem
    have hp2 := HF.out.fit.short f hmem
    have hle := textF_len l (k + 1)
    rw [HTx.out, List.length_append] at hle
    have hle2 := HF.out.few
    have hsz2 : (lineF f).data.toList.length = (lineJ f).size + 1 := by unfold lineF; simp
    have HLen : Hid ((Lib.byteCells (textF (l.take k))).length + (lineF f).size ≤ 140737488355328) := by
     show _ + _ ≤ _
     rw [Lib.byteCells_length]
     have : (lineF f).size = (lineF f).data.toList.length := by simp
     omega
    have hJl : (lineJ f).size ≤ 140737488355328 := by omega
    have HJl : Hid ((Lib.join ((lineW f).map (·.data.toList)) [32]).length ≤ 140737488355328) := by
     show _ ≤ _
     have e : (lineJ f).size = (Lib.join ((lineW f).map (·.data.toList)) [32]).length := by simp [lineJ, ByteArray.size]
     rw [← e]
     exact hJl
    have HXf := Lib.hid ((Ext.refl wr).alloc (.cells #[.string f.reel, .int .i64 f.id, .slice pA f.parts.length pc, .int .i64 f.lost, .slice sA f.short.length sc] 67))
    have HBf := Lib.hid (Blk.new wr 67 #[.string f.reel, .int .i64 f.id, .slice pA f.parts.length pc, .int .i64 f.lost, .slice sA f.short.length sc])
    have HBd := Lib.hid (isBuilder_ext HB.out HXf.out)
    have HTu := Lib.hid (fun w' (hx : Ext wr w') => (HT0.out.ext HX.out).ext hx)
    clear hfk hmem hle hle2
    have HLW : Hid (lineW f = [f.reel, decB f.id, wordN f.parts.length f.lost, decB f.parts.length, decB f.lost, decB f.short.length]) := rfl
    obtain ⟨np, hnp⟩ : ∃ np, np = f.parts.length := ⟨_, rfl⟩
    obtain ⟨ns, hns⟩ : ∃ ns, ns = f.short.length := ⟨_, rfl⟩
    rw [← hnp] at HXf HBf HBd HLW c2 hp1
    rw [← hns] at HXf HBf HBd HLW c4 hp2
    clear hnp hns
    go_upto_region 5 with fail
    obtain ⟨gx, hgx⟩ : ∃ gx, gx = wr.heap.size := ⟨_, rfl⟩
    obtain ⟨W2, hW2⟩ : ∃ W2, W2 = wr.alloc (.cells #[.string f.reel, .int .i64 f.id, .slice pA np pc, .int .i64 f.lost, .slice sA ns sc] 67) := ⟨_, rfl⟩
    rw [← hgx] at HBf
    rw [← hW2] at HBf HXf HBd ⊢
    rw [← hgx]
    have hz2 : w.heap.size < W2.heap.size := by have := HXf.out.size; omega
    clear hW2 hgx c0 c1 c2 c3 c4
    refine wp_region_links [some 12, some 13, some 14, some 15, some 16, some 17, some 18, some 19, some 20, some 21, some 22, some 23, some 24, some 25, some 26, some 27, some 28, some 29, some 30, some 31, some 32, some 33] [[], [0], [], [2], [3], [], [5, 4], [], [7], [8], [9, 6], [], [11], [12, 10], [], [14], [15], [16, 13], [1, 4, 6, 10, 13, 17], [18, 17], [19], [20, 19]] [4, 6, 10, 13, 17, 18, 19, 21] [.pointer (some ⟨gx, 0, none⟩), .string f.reel, .pointer (some ⟨gx, 1, none⟩), .int .i64 f.id, undef, .agg #[.string f.reel, .int .i64 f.id, .slice pA np pc, .int .i64 f.lost, .slice sA ns sc], undef, .pointer (some ⟨gx, 2, none⟩), .slice pA np pc, .int .i64 (np : Int), undef, .pointer (some ⟨gx, 3, none⟩), .int .i64 f.lost, undef, .pointer (some ⟨gx, 4, none⟩), .slice sA ns sc, .int .i64 (ns : Int), undef, undef, undef, .string (lineF f), undef] (TxJ w.heap.size w.heap.size (Lib.byteCells (textF (l.take k))) [.string (decB f.id), .string (wordN np f.lost), .string (decB (np : Int)), .string (decB f.lost), .string (decB (ns : Int)), undef, .string (lineJ f), .tuple #[.int .i64 (lineF f).size, .nilIface]] #[.string f.reel, .string (decB f.id), .string (wordN np f.lost), .string (decB (np : Int)), .string (decB f.lost), .string (decB (ns : Int))] (lineF f) W2) (by kernel_rfl) (by kernel_rfl) (by kernel_rfl) (by kernel_rfl) (by kernel_rfl) (by kernel_rfl) (by kernel_rfl) (by decide) ?_ ?_ ?_ ?_
    · exact TxJ.start W2
    · intro i o ho hc a w' us K' hJ hF hlim hk
      match i, ho with
      | 0, ho =>
       simp only [List.getElem?_toArray, List.getElem?_cons_zero, List.getElem?_cons_succ, Option.some.injEq] at ho
       subst ho
       have e5 := hF.old 5 (.pointer (some ⟨gx, 0, none⟩)) rfl rfl
       simp only [Act.eval] at e5
       clear hF hlim hJ
       go_simp
       exact hk
      | 1, ho =>
       simp only [List.getElem?_toArray, List.getElem?_cons_zero, List.getElem?_cons_succ, Option.some.injEq] at ho
       subst ho
       have e12 := hF.pure 0 12 (.pointer (some ⟨gx, 0, none⟩)) rfl rfl rfl rfl
       have hcl : w'.cell? ⟨gx, 0, none⟩ = some (.string f.reel) := (hJ.fate HBf.out).cell 0
       simp only [Act.eval] at e12
       clear hF hlim hJ
       go_simp
       exact hk
      | 2, ho =>
       simp only [List.getElem?_toArray, List.getElem?_cons_zero, List.getElem?_cons_succ, Option.some.injEq] at ho
       subst ho
       have e5 := hF.old 5 (.pointer (some ⟨gx, 0, none⟩)) rfl rfl
       simp only [Act.eval] at e5
       clear hF hlim hJ
       go_simp
       exact hk
      | 3, ho =>
       simp only [List.getElem?_toArray, List.getElem?_cons_zero, List.getElem?_cons_succ, Option.some.injEq] at ho
       subst ho
       have e14 := hF.pure 2 14 (.pointer (some ⟨gx, 1, none⟩)) rfl rfl rfl rfl
       have hcl : w'.cell? ⟨gx, 1, none⟩ = some (.int .i64 f.id) := (hJ.fate HBf.out).cell 1
       simp only [Act.eval] at e14
       clear hF hlim hJ
       go_simp
       exact hk
      | 4, ho => simp at hc
      | 5, ho =>
       simp only [List.getElem?_toArray, List.getElem?_cons_zero, List.getElem?_cons_succ, Option.some.injEq] at ho
       subst ho
       have e5 := hF.old 5 (.pointer (some ⟨gx, 0, none⟩)) rfl rfl
       exact wp_loadB 67 (.tmp 5) rfl gx 67 _ _ e5 (hJ.fate HBf.out) Tryz.underlying67 rfl (by exact size_fateI) hk
      | 6, ho => simp at hc
      | 7, ho =>
       simp only [List.getElem?_toArray, List.getElem?_cons_zero, List.getElem?_cons_succ, Option.some.injEq] at ho
       subst ho
       have e5 := hF.old 5 (.pointer (some ⟨gx, 0, none⟩)) rfl rfl
       simp only [Act.eval] at e5
       clear hF hlim hJ
       go_simp
       exact hk
      | 8, ho =>
       simp only [List.getElem?_toArray, List.getElem?_cons_zero, List.getElem?_cons_succ, Option.some.injEq] at ho
       subst ho
       have e19 := hF.pure 7 19 (.pointer (some ⟨gx, 2, none⟩)) rfl rfl rfl rfl
       have hcl : w'.cell? ⟨gx, 2, none⟩ = some (.slice pA np pc) := (hJ.fate HBf.out).cell 2
       simp only [Act.eval] at e19
       clear hF hlim hJ
       go_simp
       exact hk
      | 9, ho =>
       simp only [List.getElem?_toArray, List.getElem?_cons_zero, List.getElem?_cons_succ, Option.some.injEq] at ho
       subst ho
       have e20 := hF.pure 8 20 (.slice pA np pc) rfl rfl rfl rfl
       simp only [Act.eval] at e20
       clear hF hlim hJ
       go_simp
       exact hk
      | 10, ho => simp at hc
      | 11, ho =>
       simp only [List.getElem?_toArray, List.getElem?_cons_zero, List.getElem?_cons_succ, Option.some.injEq] at ho
       subst ho
       have e5 := hF.old 5 (.pointer (some ⟨gx, 0, none⟩)) rfl rfl
       simp only [Act.eval] at e5
       clear hF hlim hJ
       go_simp
       exact hk
      | 12, ho =>
       simp only [List.getElem?_toArray, List.getElem?_cons_zero, List.getElem?_cons_succ, Option.some.injEq] at ho
       subst ho
       have e23 := hF.pure 11 23 (.pointer (some ⟨gx, 3, none⟩)) rfl rfl rfl rfl
       have hcl : w'.cell? ⟨gx, 3, none⟩ = some (.int .i64 f.lost) := (hJ.fate HBf.out).cell 3
       simp only [Act.eval] at e23
       clear hF hlim hJ
       go_simp
       exact hk
      | 13, ho => simp at hc
      | 14, ho =>
       simp only [List.getElem?_toArray, List.getElem?_cons_zero, List.getElem?_cons_succ, Option.some.injEq] at ho
       subst ho
       have e5 := hF.old 5 (.pointer (some ⟨gx, 0, none⟩)) rfl rfl
       simp only [Act.eval] at e5
       clear hF hlim hJ
       go_simp
       exact hk
      | 15, ho =>
       simp only [List.getElem?_toArray, List.getElem?_cons_zero, List.getElem?_cons_succ, Option.some.injEq] at ho
       subst ho
       have e26 := hF.pure 14 26 (.pointer (some ⟨gx, 4, none⟩)) rfl rfl rfl rfl
       have hcl : w'.cell? ⟨gx, 4, none⟩ = some (.slice sA ns sc) := (hJ.fate HBf.out).cell 4
       simp only [Act.eval] at e26
       clear hF hlim hJ
       go_simp
       exact hk
      | 16, ho =>
       simp only [List.getElem?_toArray, List.getElem?_cons_zero, List.getElem?_cons_succ, Option.some.injEq] at ho
       subst ho
       have e27 := hF.pure 15 27 (.slice sA ns sc) rfl rfl rfl rfl
       simp only [Act.eval] at e27
       clear hF hlim hJ
       go_simp
       exact hk
      | 17, ho => simp at hc
      | 18, ho => simp at hc
      | 19, ho => simp at hc
      | 20, ho =>
       simp only [List.getElem?_toArray, List.getElem?_cons_zero, List.getElem?_cons_succ, Option.some.injEq] at ho
       subst ho
       obtain ⟨v31, hv31⟩ := getElem_ltq (hF.did 6 19 rfl rfl)
       have e31 := hF.link 6 19 31 _ rfl rfl rfl hv31
       have hu := hJ.val 6 v31 hv31 (by decide)
       obtain rfl : v31 = .string (lineJ f) := (Option.some.inj hu).symm
       exact wp_concat rfl e31 rfl (by show ¬ _ < ((lineJ f).size : Int) + 1; omega) hk
      | 21, ho => simp at hc
      | i + 22, ho => simp at ho
    · intro p c' o hp ho a w' us K' hl hJ hF hk
      match p, hp with
      | 0, hp =>
       obtain rfl : 4 = c' := by simpa using hp
       simp only [List.getElem?_toArray, List.getElem?_cons_zero, List.getElem?_cons_succ, Option.some.injEq] at ho
       subst ho
       obtain rfl : us = [] := List.eq_nil_of_length_eq_zero hl
       have e15 := hF.pure 3 15 (.int .i64 f.id) rfl rfl rfl rfl
       exact wp_call1 rfl e15 Tryz.call63 (Decimal_any _ _ hid.1 hid.2 (HTu.out _ (HXf.out.trans (hJ.ext (by simp))))) (fun en w5 h5 => ⟨_, h5.1, hk _ w5 (hJ.call (by simp) h5.2 rfl)⟩)
      | 1, hp =>
       obtain rfl : 6 = c' := by simpa using hp
       simp only [List.getElem?_toArray, List.getElem?_cons_zero, List.getElem?_cons_succ, Option.some.injEq] at ho
       subst ho
       obtain ⟨u0, rfl⟩ := list_1 hl
       have e17 := hF.pure 5 17 (.agg #[.string f.reel, .int .i64 f.id, .slice pA np pc, .int .i64 f.lost, .slice sA ns sc]) rfl rfl rfl rfl
       exact wp_call1 rfl e17 Tryz.call64 (Word_any _ _ _ _ _ _ _ _ _ _) (fun en w5 h5 => ⟨_, h5.1, hk _ w5 (hJ.call (by simp) h5.2 rfl)⟩)
      | 2, hp =>
       obtain rfl : 10 = c' := by simpa using hp
       simp only [List.getElem?_toArray, List.getElem?_cons_zero, List.getElem?_cons_succ, Option.some.injEq] at ho
       subst ho
       obtain ⟨u0, u1, rfl⟩ := list_2 hl
       have e21 := hF.pure 9 21 (.int .i64 (np : Int)) rfl rfl rfl rfl
       exact wp_call1 rfl e21 Tryz.call63 (Decimal_any _ _ (by omega) (by omega) (HTu.out _ (HXf.out.trans (hJ.ext (by simp))))) (fun en w5 h5 => ⟨_, h5.1, hk _ w5 (hJ.call (by simp) h5.2 rfl)⟩)
      | 3, hp =>
       obtain rfl : 13 = c' := by simpa using hp
       simp only [List.getElem?_toArray, List.getElem?_cons_zero, List.getElem?_cons_succ, Option.some.injEq] at ho
       subst ho
       obtain ⟨u0, u1, u2, rfl⟩ := list_3 hl
       have e24 := hF.pure 12 24 (.int .i64 f.lost) rfl rfl rfl rfl
       exact wp_call1 rfl e24 Tryz.call63 (Decimal_any _ _ hlo.1 hlo.2 (HTu.out _ (HXf.out.trans (hJ.ext (by simp))))) (fun en w5 h5 => ⟨_, h5.1, hk _ w5 (hJ.call (by simp) h5.2 rfl)⟩)
      | 4, hp =>
       obtain rfl : 17 = c' := by simpa using hp
       simp only [List.getElem?_toArray, List.getElem?_cons_zero, List.getElem?_cons_succ, Option.some.injEq] at ho
       subst ho
       obtain ⟨u0, u1, u2, u3, rfl⟩ := list_4 hl
       have e28 := hF.pure 16 28 (.int .i64 (ns : Int)) rfl rfl rfl rfl
       exact wp_call1 rfl e28 Tryz.call63 (Decimal_any _ _ (by omega) (by omega) (HTu.out _ (HXf.out.trans (hJ.ext (by simp))))) (fun en w5 h5 => ⟨_, h5.1, hk _ w5 (hJ.call (by simp) h5.2 rfl)⟩)
      | 5, hp =>
       obtain rfl : 18 = c' := by simpa using hp
       simp only [List.getElem?_toArray, List.getElem?_cons_zero, List.getElem?_cons_succ, Option.some.injEq] at ho
       subst ho
       obtain ⟨u0, u1, u2, u3, u4, rfl⟩ := list_5 hl
       obtain rfl : u0 = .string (decB f.id) := (Option.some.inj (hJ.val 0 u0 rfl (by decide))).symm
       obtain rfl : u1 = .string (wordN np f.lost) := (Option.some.inj (hJ.val 1 u1 rfl (by decide))).symm
       obtain rfl : u2 = .string (decB (np : Int)) := (Option.some.inj (hJ.val 2 u2 rfl (by decide))).symm
       obtain rfl : u3 = .string (decB f.lost) := (Option.some.inj (hJ.val 3 u3 rfl (by decide))).symm
       obtain rfl : u4 = .string (decB (ns : Int)) := (Option.some.inj (hJ.val 4 u4 rfl (by decide))).symm
       have e13 := hF.pure 1 13 (.string f.reel) rfl rfl rfl rfl
       have e16 := hF.link 0 4 16 _ rfl rfl rfl rfl
       have e18 := hF.link 1 6 18 _ rfl rfl rfl rfl
       have e22 := hF.link 2 10 22 _ rfl rfl rfl rfl
       have e25 := hF.link 3 13 25 _ rfl rfl rfl rfl
       have e29 := hF.link 4 17 29 _ rfl rfl rfl rfl
       have HK := Lib.hid (hk (.slice (some ⟨w'.heap.size, 0, none⟩) 6 6) (w'.alloc (.cells #[.string f.reel, .string (decB f.id), .string (wordN np f.lost), .string (decB (np : Int)), .string (decB f.lost), .string (decB (ns : Int))] 9)) (hJ.build rfl))
       simp [Act.eval] at e13 e16 e18 e22 e25 e29
       clear hk hF hJ
       go_simp
       exact HK.out
      | 6, hp =>
       obtain rfl : 19 = c' := by simpa using hp
       simp only [List.getElem?_toArray, List.getElem?_cons_zero, List.getElem?_cons_succ, Option.some.injEq] at ho
       subst ho
       obtain ⟨u0, u1, u2, u3, u4, u5, rfl⟩ := list_6 hl
       obtain ⟨g8, hg8, hB8⟩ := hJ.sl rfl
       obtain rfl : u5 = .slice (some ⟨g8, 0, none⟩) 6 6 := Option.some.inj hg8
       have e30 := hF.link 5 18 30 _ rfl rfl rfl rfl
       have hcj : ∀ (j : Nat) x, (lineW f)[j]? = some x → w'.cell? ⟨g8, 0 + j, none⟩ = some (.string x) := fun j x hx => by
        rw [Nat.zero_add, hB8.cell]
        rw [HLW.out] at hx
        match j, hx with
        | 0, hx => cases hx; rfl
        | 1, hx => cases hx; rfl
        | 2, hx => cases hx; rfl
        | 3, hx => cases hx; rfl
        | 4, hx => cases hx; rfl
        | 5, hx => cases hx; rfl
        | j + 6, hx => simp at hx
       exact wp_call2 rfl e30 rfl Tryz.call62 ((Tryz.strings_Join g8 0 6 (lineW f) ⟨#[32]⟩ w' hcj hB8.lt (by rw [HLW.out]; simp) (by rw [HLW.out]; simp) HJl.out).mono (fun en w5 h5 => ⟨h5.1, h5.2⟩)) (fun w5 hx5 => hk _ w5 (hJ.call (.inr rfl) hx5 rfl))
      | 7, hp =>
       obtain rfl : 21 = c' := by simpa using hp
       simp only [List.getElem?_toArray, List.getElem?_cons_zero, List.getElem?_cons_succ, Option.some.injEq] at ho
       subst ho
       obtain ⟨u0, u1, u2, u3, u4, u5, u6, rfl⟩ := list_7 hl
       have e3 := hF.old 3 (.pointer (some ⟨w.heap.size, 0, none⟩)) rfl rfl
       have e32 := hF.pure 20 32 (.string (lineF f)) rfl rfl rfl rfl
       refine wp_call2P rfl (hF.old 3 (.pointer (some ⟨w.heap.size, 0, none⟩)) rfl rfl) e32 Tryz.call61 (WriteString_kb w.heap.size _ _ (lineF f) w' (isBuilder_ext HBd.out (hJ.ext (by simp))) HLen.out (by have := (hJ.ext (by simp)).size; omega)) (fun en w5 h5 => ⟨_, h5.1, hk _ w5 (hJ.write rfl rfl h5.2.1 h5.2.2.1 h5.2.2.2)⟩)
      | p + 8, hp => simp at hp
    intro us w9 hl hJ
    obtain ⟨q0, q1, q2, q3, q4, q5, q6, q7, rfl⟩ := list_8 hl
    first | (rename_i hK; refine hK _ _ ?_; clear hK) | (rename_i hK hK_1; refine hK _ _ ?_; clear hK) | (rename_i hK hK_1 hK_2; refine hK _ _ ?_; clear hK) | (rename_i hK hK_1 hK_2 hK_3; refine hK _ _ ?_; clear hK)
    generalize hL : frameL _ _ _ _ = L
    obtain rfl : L = [(12, .pointer (some ⟨gx, 0, none⟩)), (13, .string f.reel), (14, .pointer (some ⟨gx, 1, none⟩)), (15, .int .i64 f.id), (16, q0), (17, .agg #[.string f.reel, .int .i64 f.id, .slice pA np pc, .int .i64 f.lost, .slice sA ns sc]), (18, q1), (19, .pointer (some ⟨gx, 2, none⟩)), (20, .slice pA np pc), (21, .int .i64 (np : Int)), (22, q2), (23, .pointer (some ⟨gx, 3, none⟩)), (24, .int .i64 f.lost), (25, q3), (26, .pointer (some ⟨gx, 4, none⟩)), (27, .slice sA ns sc), (28, .int .i64 (ns : Int)), (29, q4), (30, q5), (31, q6), (32, .string (lineF f)), (33, q7)] := hL.symm.trans (by kernel_rfl)
    clear hL hl
    simp only [Act.put, List.foldl_cons, List.foldl_nil, List.setIfInBounds_toArray, List.set_cons_zero, List.set_cons_succ]
    obtain ⟨w5, hx5, hb5, hbl, -⟩ := hJ.fin rfl
    have HX9 : Hid (Ext w w9) := ((HX.out.trans HXf.out).trans hx5).below hbl (Nat.le_refl _)
    have HB9 : Hid (Lib.IsBuilder 122 5 w.heap.size w.heap.size (Lib.byteCells (textF (l.take (k + 1)))) w9) := by
     show Lib.IsBuilder _ _ _ _ _ _
     rw [HTx.out, byteCells_append, ← strCells_eq]
     exact .inr hb5
    have hz9 : w.heap.size < w9.heap.size := by have h1 := hx5.size; have h2 := hbl.size; omega
    clear hJ hx5 hb5 hbl
    go_wp2_with fail
    exact ⟨⟨k + 1, by omega, by go_num, HX9.out, hz9, HB9.out⟩, by simp [intOf]; omega⟩
  · have hkn : k = n := by omega
    subst hkn
    have HT : Hid (l.take k = l) := List.take_of_length_le (by rw [HLn.out]; omega)
    go_wp2_with fail
    refine (Tryz.Builder_String_any w.heap.size _ _ _ HB.out (by omega)).mono ?_
    rintro e w2 ⟨rfl, hx2⟩
    go_wp2_with fail
    go_ret
    exact ⟨by rw [HT.out]; rfl, HX.out.below hx2 (by omega)⟩
end
section
open Go.RowKit
theorem lineF_cat (f : Fat) : f.reel ++ ⟨#[32]⟩ ++ decB f.id ++ ⟨#[32]⟩ ++ wordN f.parts.length f.lost ++ ⟨#[32]⟩ ++ decB f.parts.length ++ ⟨#[32]⟩ ++ decB f.lost ++ ⟨#[32]⟩ ++ decB f.short.length ++ ⟨#[10]⟩ = lineF f := by
 unfold lineF lineJ lineW
 apply ByteArray.ext
 apply Array.toList_inj.1
 simp [Lib.join]
theorem textF_cat {l : List Fat} {k : Nat} {f : Fat} (h : l[k]? = some f) : (⟨(textF (l.take k)).toArray⟩ : ByteArray) ++ lineF f = ⟨(textF (l.take (k + 1))).toArray⟩ := by
 rw [textF_snoc h]
 apply ByteArray.ext
 apply Array.toList_inj.1
 simp
end
end Go.Proofs.YtablhmobekmflaaGreatDoor