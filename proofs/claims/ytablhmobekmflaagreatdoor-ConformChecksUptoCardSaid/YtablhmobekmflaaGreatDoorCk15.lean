/- Texts laid together. -/
import Derived.Test.YtablhmobekmflaaGreatDoorCk08
import Derived.Test.YtablhmobekmflaaGreatDoorCk11
import Derived.Test.YtablhmobekmflaaGreatDoorCk14
import Derived.Test.YtablhmobekmflaaGreatDoorCk01
import Derived.Test.YtablhmobekmflaaGreatDoorCk13
import Derived.Shelf.SlSortCmp.WholeK
import Derived.Shelf.SlSortCmp.NoneTotal
import Derived.Test.YtablhmobekmflaaGreatDoorCk02
import Derived.Test.YtablhmobekmflaaGreatDoorCk07
set_option linter.unusedVariables false
set_option linter.unusedSimpArgs false
namespace Go.Proofs.YtablhmobekmflaaGreatDoor
section
open Go.RowKit Go.ChangeShapes Go.WideShapes Go.ChangeAt
set_option maxRecDepth 100000
theorem env_of5 {W : World} (h : laidMet Tryz.prog [("math/bits.deBruijn32tab", Rows.laid_math_bits_deBruijn32tab), ("math/bits.deBruijn64tab", Rows.laid_math_bits_deBruijn64tab), ("internal/strconv.uint64pow10", Rows.laid_internal_strconv_uint64pow10), ("unicode/utf8.acceptRanges", Rows.laid_unicode_utf8_acceptRanges), ("unicode/utf8.first", Rows.laid_unicode_utf8_first)] W) (hs : W.ShapedOpen Tryz.prog) : Env W := by
 refine ⟨?_, ?_⟩
 · have h1 := Lib.laidMet.reads h (n := "unicode/utf8.first") (d := Rows.laid_unicode_utf8_first) (by simp)
   have h2 := Lib.laidMet.reads h (n := "unicode/utf8.acceptRanges") (d := Rows.laid_unicode_utf8_acceptRanges) (by simp)
   rw [first_same] at h1
   rw [accept_same] at h2
   exact utf8Tabs_of_readsT (U8Types.of196 Tryz.laysValid) u8extra h1 h2
 · obtain ⟨cs, hh, hz, hr⟩ := hs.1 2 #[.int .i64 0] 3 (of_decide_eq_true (by kernel_rfl)) (by kernel_rfl)
   obtain ⟨ts, hts, _, hall⟩ := hr (by kernel_rfl)
   have h1 : 0 < cs.size := by rw [hz]; decide
   have e : Tryz.prog.cellTypes Tryz.prog.depth 3 = some [3] := by kernel_rfl
   rw [e] at hts
   cases hts
   obtain ⟨u, hu', hok⟩ := hall 0 cs[0] (by simp [h1])
   have : u = 3 := by simpa using hu'.symm
   subst this
   have hcell : W.cell? ⟨2, 0, none⟩ = some cs[0] := by simp [World.cell?, hh, h1]
   rw [hcell]
   unfold Cell.ok at hok
   rw [Tryz.underlying3] at hok
   cases hv : cs[0] <;> rw [hv] at hok <;> first | (simp at hok; done) | skip
   rename_i k m
   simp at hok
   exact ⟨m, by rw [hok.1]⟩
theorem tab_of5 {W : World} (h : laidMet Tryz.prog [("math/bits.deBruijn32tab", Rows.laid_math_bits_deBruijn32tab), ("math/bits.deBruijn64tab", Rows.laid_math_bits_deBruijn64tab), ("internal/strconv.uint64pow10", Rows.laid_internal_strconv_uint64pow10), ("unicode/utf8.acceptRanges", Rows.laid_unicode_utf8_acceptRanges), ("unicode/utf8.first", Rows.laid_unicode_utf8_first)] W) : TabU W := by
 obtain ⟨g', t', cs, fuel, p, hg', ht', hvar, hd⟩ := Lib.laidMet.reads h (n := "internal/strconv.uint64pow10") (d := Rows.laid_internal_strconv_uint64pow10) (by simp)
 have e1 : (Rows.laid_internal_strconv_uint64pow10 : DataW Unit) = Lib.tabData .u64 Lib.pow10Tab := by kernel_rfl
 have hgg : Tryz.prog.globalNamed "internal/strconv.uint64pow10" = some 3 := by kernel_rfl
 obtain rfl := Option.some.inj (hgg.symm.trans hg')
 have hty : (Tryz.prog.globals[3]?).map (·.type) = some 304 := by kernel_rfl
 obtain rfl := Option.some.inj (hty.symm.trans ht')
 rw [e1] at hd
 have hc := Lib.cells_of_tab Tryz.underlying304 Tryz.underlying192 (by kernel_rfl) (by kernel_rfl) hd
 unfold TabU Lib.TabIs
 rw [hvar]
 exact congrArg some (Array.toList_inj.1 (by simpa using hc))
def litVals : List (DataW Unit) → List Value
 | .lit (.int k z) :: r => .int k z :: litVals r
 | _ => []
def aggVals : DataW Unit → List Value
 | .agg l => litVals l
 | _ => []
def layTab (d : DataW Unit) : Obj → Obj
 | .cells _ t frozen => .cells (aggVals d).toArray t frozen
 | o => o
noncomputable def laidWorld5 (os : Os) : World :=
 { laidWorld os with heap := (((laidWorld os).heap.modify 3 (layTab Rows.laid_internal_strconv_uint64pow10)).modify 4 (layTab Rows.laid_math_bits_deBruijn32tab)).modify 5 (layTab Rows.laid_math_bits_deBruijn64tab) }
theorem openK_doc (W : World) : OpensK Tryz.prog W 52 (fun k cs (d : Doc) => k ≤ 1048576 → ∃ h, cs = (Doc.cells d h).toList ∧ DocAt W d h ∧ DocIn d h) := by
 intro H enc fuel cs x h hw
 by_cases hk : Rows.uptoBulk x.1 ≤ 1048576
 case neg => exact ⟨Doc.blank, fun h => absurd h hk⟩
 obtain ⟨hl, ks, hks, hkl, hf⟩ := OpensK.fields Tryz.underlying52 h hw
 rw [cells_document] at hl
 obtain ⟨v0, v1, v2, v3, v4, v5, v6, v7, he⟩ := list_8 (show cs.length = 8 from hl)
 obtain ⟨k0, k1, k2, k3, k4, k5, k6, k7, rfl⟩ := list_8 (show ks.length = 8 from hkl)
 obtain ⟨a0, h0, s0⟩ := hf 0 _ rfl (OpensK.string Tryz.underlying9)
 obtain ⟨a1, h1, s1⟩ := hf 1 _ rfl (OpensK.string Tryz.underlying9)
 obtain ⟨a2, h2, s2⟩ := hf 2 _ rfl (.of (Opens.int Tryz.underlying22))
 obtain ⟨a3, h3⟩ := hf 3 _ rfl (.of (Opens.bool Tryz.underlying4))
 obtain ⟨a4, h4, s4⟩ := hf 4 _ rfl (.of (Opens.int Tryz.underlying2))
 obtain ⟨⟨regs, A5, n5, c5⟩, h5, r5, r6, r7, r8⟩ := hf 5 _ rfl (R := fun k cs (r : List Reg × Option Addr × Nat × Nat) => cs = [.slice r.2.1 r.2.2.1 r.2.2.2] ∧ r.2.2.1 ≤ r.2.2.2 ∧ r.2.2.1 * 56 ≤ 140737488355328 ∧ RegsAt W r.2.1 r.2.2.1 r.1 ∧ RegsSmall r.1) (fun H enc fuel cs x h hw => by
  obtain ⟨A, n, c, l, hc, hnc, hcm, hb, hs⟩ := Opens.slice Tryz.underlying48 cells_region (by decide) bytes_region (open_region W) h hw
  refine ⟨(l, A, n, c), hc, hnc, (show n * 56 ≤ 140737488355328 by simp only [reachBytes] at hb; omega), Sl.change (D := RegC) hs fun b o r hm => ?_, show ∀ r ∈ l, r.name.size ≤ 9223372036854775807 from hs.all (p := fun r : Reg => r.name.size ≤ 9223372036854775807) fun b o r hm => ?_⟩
  · obtain ⟨cs, h1, h2, _⟩ := hm
    subst h2
    exact ⟨h1 0 _ rfl, h1 1 _ rfl, h1 2 _ rfl, h1 3 _ rfl, h1 4 _ rfl, h1 5 _ rfl, h1 6 _ rfl⟩
  · obtain ⟨cs, _, _, h3⟩ := hm
    omega)
 obtain ⟨⟨evs, A6, n6, c6⟩, h6, e5, e6, e7, e8⟩ := hf 6 _ rfl (R := fun k cs (r : List Ev × Option Addr × Nat × Nat) => cs = [.slice r.2.1 r.2.2.1 r.2.2.2] ∧ r.2.2.1 ≤ r.2.2.2 ∧ r.2.2.1 * 2 ≤ k ∧ EvsAt W r.2.1 r.2.2.1 r.1 ∧ ∀ e ∈ r.1, e.bulk ≤ k ∧ e.Nums) (fun H enc fuel cs x h hw => by
  obtain ⟨A, n, c, l, hc, hnc, hcm, hb, hs, hk⟩ := OpensK.slice Tryz.underlying49 cells_event (by decide) bytes_event (openK_event2 W) h hw
  have hall := hs.all (p := fun p : Ev × Nat => p.1.bulk + 2 ≤ p.2 ∧ p.1.Nums) (fun b o q hm => by obtain ⟨_, _, _, h3, h4⟩ := hm; exact ⟨h3, h4⟩)
  have h2 := sum_ge (n := 2) (l := l) (fun p hp => by have := (hall p hp).1; omega)
  have hln : l.length = n := hs.len
  refine ⟨(l.map (fun p : Ev × Nat => p.1), A, n, c), hc, hnc, (show n * 2 ≤ _ by omega), Sl.mapK (D := EvC) hs fun b o p hm => ?_, fun e he => ?_⟩
  · obtain ⟨cs, h1, ⟨A', n', c', h2, h3⟩, _⟩ := hm
    subst h2
    exact ⟨A', n', c', h1, h3⟩
  · obtain ⟨p, hp, rfl⟩ := List.mem_map.1 he
    have h3 := hall p hp
    have h4 := mem_le hp
    exact ⟨by omega, h3.2⟩)
 obtain ⟨⟨coms, A7, n7, c7⟩, h7, m5, m6, m7, m8⟩ := hf 7 _ rfl (R := fun k cs (r : List Com × Option Addr × Nat × Nat) => cs = [.slice r.2.1 r.2.2.1 r.2.2.2] ∧ r.2.2.1 ≤ r.2.2.2 ∧ r.2.2.1 * 2 ≤ k ∧ ComsAt W r.2.1 r.2.2.1 r.1 ∧ ∀ c ∈ r.1, c.author.size + c.text.size ≤ k ∧ c.Nums) (fun H enc fuel cs x h hw => by
  obtain ⟨A, n, c, l, hc, hnc, hcm, hb, hs, hk⟩ := OpensK.slice Tryz.underlying50 cells_comment (by decide) bytes_comment (openK_com W) h hw
  have hall := hs.all (p := fun p : Com × Nat => p.1.author.size + p.1.text.size + 2 ≤ p.2 ∧ p.1.Nums) (fun b o q hm => by obtain ⟨_, _, _, h3, h4⟩ := hm; exact ⟨h3, h4⟩)
  have h2 := sum_ge (n := 2) (l := l) (fun p hp => by have := (hall p hp).1; omega)
  have hln : l.length = n := hs.len
  refine ⟨(l.map (fun p : Com × Nat => p.1), A, n, c), hc, hnc, (show n * 2 ≤ _ by omega), Sl.mapK (D := Cells Com.vals) hs fun b o p hm => ?_, fun e he => ?_⟩
  · obtain ⟨cs, h1, h2, _⟩ := hm
    subst h2
    exact h1
  · obtain ⟨p, hp, rfl⟩ := List.mem_map.1 he
    have h3 := hall p hp
    have h4 := mem_le hp
    exact ⟨by omega, h3.2⟩)
 rw [he] at h0 h1 h2 h3 h4 h5 h6 h7
 simp [cells_string, cells_bool, cells_int64, cells_rateD, cells_regs, cells_evts, cells_coms] at h0 h1 h2 h3 h4 h5 h6 h7 s0 s1 e6 e8 m6 m8 hks
 have n2 := bounds_u8 s2
 subst h0 h1 h2 h3 h4 h5 h6 h7
 dsimp only at *
 exact ⟨⟨a0, a1, a2, a3, a4, regs, evs, coms⟩, fun _ => ⟨⟨A5, n5, c5, A6, n6, c6, A7, n7, c7⟩, he, ⟨r7, e7, m7⟩, ⟨⟨⟨n2.1, n2.2, by simp only; omega, by simp only; omega⟩, r8, fun e hm => ev_small (by have := (e8 e hm).1; omega), fun e hm => (e8 e hm).2.1, fun c hm => ⟨(m8 c hm).2.1, (m8 c hm).2.2.1, by have := (m8 c hm).1; omega, by have := (m8 c hm).1; omega⟩⟩, fun e hm => (e8 e hm).2, fun c hm => (m8 c hm).2, bounds_i64 s4, by simp only; omega, by simp only; omega, by simp only; omega, ⟨r5, r6⟩, e5, m5⟩⟩⟩
def RDocInC (w : World) (b o : Nat) (d : RDoc) : Prop := ∃ h : DocH, (∀ j u, (d.cells h).toList[j]? = some u → w.cell? ⟨b, o + j, none⟩ = some u) ∧ DocAt w d.doc h ∧ DocIn d.doc h
theorem RDocInC.stays : Stays RDocInC := fun _ _ _ _ _ k ⟨h, h1, h2, h3⟩ => ⟨h, fun j u hu => k.cell (h1 j u hu), h2.ext k, h3⟩
def RDocsIn (w : World) (A : Option Addr) (n : Nat) (l : List RDoc) : Prop := Sl w 9 RDocInC A n l
theorem RDocsIn.ext {w w1 : World} {A : Option Addr} {n : Nat} {l : List RDoc} (h : RDocsIn w A n l) (k : Ext w w1) : RDocsIn w1 A n l := Sl.ext RDocInC.stays h k
theorem RDocsIn.at_cells {w : World} {A : Option Addr} {n : Nat} {l : List RDoc} (h : RDocsIn w A n l) {i : Nat} (hi : i < n) : ∃ b off d k, A = some ⟨b, off, none⟩ ∧ l[i]? = some d ∧ DocAt w d.doc k ∧ DocIn d.doc k ∧
 (w.cell? ⟨b, off + i * 9, none⟩ = some (.string d.reel) ∧ w.cell? ⟨b, off + i * 9 + 1, none⟩ = some (.string d.doc.title) ∧ w.cell? ⟨b, off + i * 9 + 2, none⟩ = some (.string d.doc.lang) ∧ w.cell? ⟨b, off + i * 9 + 3, none⟩ = some (.int .u8 d.doc.rate) ∧
  w.cell? ⟨b, off + i * 9 + 4, none⟩ = some (.bool d.doc.drop) ∧ w.cell? ⟨b, off + i * 9 + 5, none⟩ = some (.int .i64 d.doc.last) ∧ w.cell? ⟨b, off + i * 9 + 6, none⟩ = some (.slice k.ra k.rn k.rc) ∧ w.cell? ⟨b, off + i * 9 + 7, none⟩ = some (.slice k.ea k.en k.ec) ∧ w.cell? ⟨b, off + i * 9 + 8, none⟩ = some (.slice k.ca k.cn k.cc)) := by
 obtain ⟨b, off, d, hA, hd, k, hC, h1, h2⟩ := h.at_ hi
 exact ⟨b, off, d, k, hA, hd, h1, h2, by simpa using hC 0 _ rfl, hC 1 _ rfl, hC 2 _ rfl, hC 3 _ rfl, hC 4 _ rfl, hC 5 _ rfl, hC 6 _ rfl, hC 7 _ rfl, hC 8 _ rfl⟩
theorem RDocsIn.docs {w : World} {A : Option Addr} {n : Nat} {l : List RDoc} (h : RDocsIn w A n l) (hr : ∀ d ∈ l, d.doc.regs.length ≤ 1000000) : RDocsAt w A n l := by
 refine ⟨h.1, fun hn => ?_⟩
 obtain ⟨b, off, hA, hC⟩ := h.2 hn
 refine ⟨b, off, hA, fun i d hd => ?_⟩
 obtain ⟨k, h1, h2, h3⟩ := hC i d hd
 exact ⟨k, h1, h2, by have := hr d (List.mem_of_getElem? hd); have := h2.regs.len; omega, h3.en, h3.cn⟩
theorem RDocsIn.fit {w : World} {A : Option Addr} {n : Nat} {l : List RDoc} (h : RDocsIn w A n l) : ∀ d ∈ l, DocFit d.doc := by
 intro d hd
 obtain ⟨i, hi⟩ := List.getElem?_of_mem hd
 have hlt : i < n := by have := h.1; have := (List.getElem?_eq_some_iff.1 hi).1; omega
 obtain ⟨_, _, d', _, _, hd', _, hin, _⟩ := h.at_cells hlt
 rw [hi] at hd'
 cases hd'
 exact hin.fit
theorem cells_rdoc : Tryz.prog.cellsOf 58 = 9 := by kernel_rfl
theorem bytes_rdoc : Tryz.prog.bytesOf 58 = 136 := by kernel_rfl
theorem openK_rdoc (W : World) : OpensK Tryz.prog W 58 (fun k cs (d : RDoc) => 1 ≤ k ∧ (k ≤ 1048576 → (∃ h, cs = (d.cells h).toList ∧ DocAt W d.doc h ∧ DocIn d.doc h) ∧ d.reel.size ≤ k)) := by
 intro H enc fuel cs x h hw
 obtain ⟨hl, ks, hks, hkl, hf⟩ := OpensK.fields Tryz.underlying58 h hw
 rw [cells_rdoc] at hl
 obtain ⟨k0, k1, rfl⟩ := list_2 (show ks.length = 2 from hkl)
 obtain ⟨a0, h0, s0⟩ := hf 0 _ rfl (OpensK.string Tryz.underlying9)
 obtain ⟨a1, h1⟩ := hf 1 _ rfl (openK_doc W)
 simp [cells_string, cells_document] at h0 h1 s0 hks
 refine ⟨⟨a0, a1⟩, by omega, fun hk => ⟨?_, by simp only; omega⟩⟩
 obtain ⟨hh, h2, h3, h4⟩ := h1 (by omega)
 refine ⟨hh, ?_, h3, h4⟩
 have e1 : cs = cs.take 1 ++ (cs.drop 1).take 8 := by
  rw [List.take_of_length_le (l := cs.drop 1) (by simp; omega), List.take_append_drop]
 rw [e1, List.drop_one, h2, h0]
 rfl
theorem argK_rdocs {H : Type} {enc : TypeId × Value → H} {W : World} {base : Nat} {v : Value} {d : DataW H} {p : List MemPlace} (hv : Value.okWide Tryz.prog W .any base 44 v) (h : DataW.Trod enc Tryz.prog W 0 (fun _ => true) true 44 v d p)
 (hw : ∀ n ∈ d.weights Tryz.prog 44, n ≤ reachBytes) (hk : Rows.uptoBulk d ≤ 1048576) : ∃ A n c l, v = .slice A n c ∧ n ≤ c ∧ n ≤ 1048576 ∧ RDocsIn W A n l ∧ ∀ d ∈ l, d.reel.size ≤ 1048576 := by
 obtain ⟨fuel, h⟩ := h
 obtain ⟨A, n, c, l, hc, hnc, hcm, hb, hs, hbk⟩ := OpensK.slice Tryz.underlying44 cells_rdoc (by decide) bytes_rdoc (openK_rdoc W) h hw
 dsimp only at hbk
 have hv' : v = .slice A n c := by
  unfold Value.okWide at hv
  rw [Tryz.underlying44] at hv
  cases v <;> simp [Value.cells] at hc <;> first | (obtain ⟨h1, h2, h3⟩ := hc; subst h1 h2 h3; rfl) | (simp [Cell.okWide, Tryz.underlying44, Cell.ok] at hv)
 have hall := hs.all (p := fun p : RDoc × Nat => 1 ≤ p.2 ∧ (p.2 ≤ 1048576 → p.1.reel.size ≤ p.2)) (fun b o q hm => by obtain ⟨_, _, h3, h4⟩ := hm; exact ⟨h3, fun hq => (h4 hq).2⟩)
 have h2 := sum_ge (n := 1) (l := l) (fun p hp => (hall p hp).1)
 have hln : l.length = n := hs.len
 refine ⟨A, n, c, l.map (fun p : RDoc × Nat => p.1), hv', hnc, by omega, ?_, fun d hd => ?_⟩
 · refine ⟨by simpa using hs.1, fun hn => ?_⟩
   obtain ⟨b, off, hA, hC⟩ := hs.2 hn
   refine ⟨b, off, hA, fun i x hx => ?_⟩
   rw [List.getElem?_map, Option.map_eq_some_iff] at hx
   obtain ⟨q, hq, rfl⟩ := hx
   obtain ⟨cs, h1, h3, h4⟩ := hC i q hq
   have h5 := mem_le (List.mem_of_getElem? hq)
   obtain ⟨⟨hh, h6, h7, h8⟩, _⟩ := h4 (by omega)
   subst h6
   exact ⟨hh, h1, h7, h8⟩
 · obtain ⟨q, hq, rfl⟩ := List.mem_map.1 hd
   have h5 := mem_le hq
   have := (hall q hq).2 (by omega)
   omega
structure FatsIn (l : List Fat) : Prop where
 fit : FatsFit l
 id : ∀ f ∈ l, IW f.id
 lost : ∀ f ∈ l, IW f.lost
 reel : ∀ f ∈ l, f.reel.size ≤ 1048576
end
section
open Go.RowKit
def sumR (l : List RDoc) : Nat := (l.map fun d => d.doc.evs.length + (d.doc.regs.length + d.doc.coms.length)).sum
theorem sumR_take {l : List RDoc} {k : Nat} {d : RDoc} (h : l[k]? = some d) : sumR (l.take (k + 1)) = sumR (l.take k) + (d.doc.evs.length + (d.doc.regs.length + d.doc.coms.length)) := by
 unfold sumR
 rw [take_snoc' _ _ _ h]
 simp
theorem sumR_mem : ∀ {l : List RDoc} {d : RDoc}, d ∈ l → d.doc.evs.length + (d.doc.regs.length + d.doc.coms.length) ≤ sumR l
 | [], _, h => by simp at h
 | x :: l, d, h => by
  unfold sumR
  simp only [List.map_cons, List.sum_cons]
  rcases List.mem_cons.1 h with rfl | h
  · omega
  · have := sumR_mem h
    unfold sumR at this
    omega
def small46 (docs : List RDoc) (e : Edl) : Bool := decide (docs.length ≤ 20 ∧ e.cuts.length ≤ 20 ∧ e.title.size ≤ 500 ∧ sumR docs ≤ 80)
theorem small46_1 {docs : List RDoc} {e : Edl} (h : ¬ docs.length ≤ 20) : small46 docs e = false := decide_eq_false fun k => h k.1
theorem small46_2 {docs : List RDoc} {e : Edl} (h : ¬ e.cuts.length ≤ 20) : small46 docs e = false := decide_eq_false fun k => h k.2.1
theorem small46_3 {docs : List RDoc} {e : Edl} (h : ¬ e.title.size ≤ 500) : small46 docs e = false := decide_eq_false fun k => h k.2.2.1
theorem small46_4 {docs : List RDoc} {e : Edl} (h1 : docs.length ≤ 20) (h2 : e.cuts.length ≤ 20) (h3 : e.title.size ≤ 500) : small46 docs e = decide (sumR docs ≤ 80) := by
 unfold small46
 by_cases h : sumR docs ≤ 80
 · rw [decide_eq_true h, decide_eq_true ⟨h1, h2, h3, h⟩]
 · rw [decide_eq_false h, decide_eq_false fun k => h k.2.2.2]
def SmlRel (w : World) (n : Nat) (l : List RDoc) (v i : Value) (wr : World) : Prop := ∃ k : Nat, k ≤ n ∧ i = .int .i64 k ∧ v = .int .i64 (sumR (l.take k)) ∧ sumR (l.take k) ≤ k * 9223372036854 ∧ Ext w wr
theorem docIn_sizes {d : Doc} {h : DocH} {w : World} (hi : DocIn d h) (ha : DocAt w d h) : d.evs.length = h.en ∧ d.regs.length = h.rn ∧ d.coms.length = h.cn ∧ h.en + (h.rn + h.cn) ≤ 9223372036854 := by
 have h1 := ha.evs.len
 have h2 := ha.regs.len
 have h3 := ha.coms.len
 have h4 := hi.en
 have h5 := hi.cn
 have h6 := hi.rc.2
 exact ⟨h1, h2, h3, by omega⟩
set_option maxRecDepth 100000 in
set_option maxHeartbeats 2000000 in
theorem small46_any (docs : List RDoc) (A : Option Addr) (n c : Nat) (e : Edl) (B : Option Addr) (m d : Nat) (w : World) (hl : RDocsIn w A n docs) (he : CutsAt w B m e.cuts) :
 Calls Tryz.prog 23 #[.slice A n c, .agg (e.cells B m d)] w fun en w' => en = .returned (.bool (small46 docs e)) ∧ Ext w w' := by
 have HX := Lib.hid ((Ext.refl w).alloc (.cells (e.cells B m d) 25))
 have hcb := fun o => (Blk.new w 25 (e.cells B m d)).cell o
 have hL1 : docs.length = n := hl.1
 have hL2 : e.cuts.length = m := he.1
 have HL := Lib.hid (hl.ext HX.out)
 unfold Edl.cells at *
 by_cases h1 : n ≤ 20
 case neg =>
  have h1i : ¬ (n : Int) ≤ 20 := by omega
  have HG : Hid (small46 docs e = false) := small46_1 (by omega)
  clear hL1 hL2 h1 hl he
  go_enter Tryz.func23, Tryz.ntmps23
  go_wp2_with fail
  go_ret
  exact ⟨by rw [HG.out]; rfl, HX.out⟩
 have h1i : (n : Int) ≤ 20 := by omega
 by_cases h2 : m ≤ 20
 case neg =>
  have h2i : ¬ (m : Int) ≤ 20 := by omega
  have HG : Hid (small46 docs e = false) := small46_2 (by omega)
  clear hL1 hL2 h2 hl he
  go_enter Tryz.func23, Tryz.ntmps23
  go_wp2_with fail
  go_ret
  exact ⟨by rw [HG.out]; rfl, HX.out⟩
 have h2i : (m : Int) ≤ 20 := by omega
 by_cases h3 : e.title.size ≤ 500
 case neg =>
  have h3i : ¬ (e.title.size : Int) ≤ 500 := by omega
  have HG : Hid (small46 docs e = false) := small46_3 h3
  clear hL1 hL2 h3 hl he
  go_enter Tryz.func23, Tryz.ntmps23
  go_wp2_with fail
  go_ret
  exact ⟨by rw [HG.out]; rfl, HX.out⟩
 have h3i : (e.title.size : Int) ≤ 500 := by omega
 have HG : Hid (small46 docs e = decide (sumR docs ≤ 80)) := small46_4 (by omega) (by omega) h3
 have HLn := Lib.hid hL1
 clear hL1 hL2 h2 h3 hl he
 rw [HG.out]
 go_enter Tryz.func23, Tryz.ntmps23
 go_wp2_with fail
 clear h2i h3i hcb
 generalize w.alloc (.cells #[.string e.title, .int .u8 e.rate, .bool e.drop, .slice B m d] 25) = W1 at *
 go_loopw [5, 25] (fun v i wr => SmlRel W1 n docs v i wr) (fun _ i _ => n - (intOf i).toNat)
 case atStart => exact ⟨0, Nat.zero_le _, rfl, by simp [sumR], by simp [sumR], Ext.refl _⟩
 case round =>
  obtain ⟨k, hk, rfl, rfl, hb, hx⟩ := hrel
  by_cases hlt : k < n
  · obtain ⟨b, off, x, hh, hA, hxx, hat, hin, c0, c1, c2, c3, c4, c5, c6, c7, c8⟩ := (HL.out.ext hx).at_cells hlt
    subst hA
    obtain ⟨hs1, hs2, hs3, hs4⟩ := docIn_sizes hin hat
    have hst := sumR_take hxx
    rw [hs1, hs2, hs3] at hst
    clear hs1 hs2 hs3 hat hin hxx
    obtain ⟨hra, nr, hrc, hea, hen, hec, hca, nc, hcc⟩ := hh
    dsimp only at *
    generalize sumR (docs.take k) = S at *
    have HX2 := Lib.hid hx
    clear hx
    go_upto_region 7 with fail
    clear c0 c1 c2 c3 c4 c5 c6 c7 c8
    have HX3 := Lib.hid (HX2.out.alloc (.cells #[.string x.reel, .string x.doc.title, .string x.doc.lang, .int .u8 x.doc.rate, .bool x.doc.drop, .int .i64 x.doc.last, .slice hra nr hrc, .slice hea hen hec, .slice hca nc hcc] 58))
    have hcb := fun o => (Blk.new wr 58 #[.string x.reel, .string x.doc.title, .string x.doc.lang, .int .u8 x.doc.rate, .bool x.doc.drop, .int .i64 x.doc.last, .slice hra nr hrc, .slice hea hen hec, .slice hca nc hcc]).cell o
    go_wp2_with fail
    exact ⟨⟨k + 1, by omega, by go_num, by rw [hst]; go_num, by rw [hst]; omega, HX3.out⟩, by simp [intOf]; omega⟩
  · obtain rfl : k = n := by omega
    have HT : Hid (docs.take k = docs) := List.take_of_length_le (by rw [HLn.out]; omega)
    rw [HT.out] at hb ⊢
    have HX2 := Lib.hid (HX.out.trans hx)
    clear hx
    by_cases h4 : sumR docs ≤ 80
    · have h4i : ((sumR docs : Nat) : Int) ≤ 80 := by omega
      clear hb
      go_wp2_with fail
      go_ret
      exact ⟨by first | rfl | (rw [decide_eq_true h4]; rfl), HX2.out⟩
    · have h4i : ¬ ((sumR docs : Nat) : Int) ≤ 80 := by omega
      clear hb
      go_wp2_with fail
      go_ret
      exact ⟨by first | rfl | (rw [decide_eq_false h4]; rfl), HX2.out⟩
end
section
open Go.RowKit
theorem info_regI : (Tryz.prog.info? 105).map (fun i => (i.zero, i.size, i.bytes)) = some (some (.agg #[.string ⟨#[]⟩, .int .i64 0, .int .i64 0, .int .i64 0, .int .i64 0, .int .u8 0, .bool false]), 7, 56) := by kernel_rfl
theorem info_comI : (Tryz.prog.info? 152).map (fun i => (i.zero, i.size, i.bytes)) = some (some (.agg #[.int .i64 0, .int .i64 0, .int .i64 0, .int .i64 0, .string ⟨#[]⟩, .string ⟨#[]⟩, .bool false, .bool false]), 8, 72) := by kernel_rfl
theorem info_evtI : (Tryz.prog.info? 64).map (fun i => (i.zero, i.size, i.bytes)) = some (some (.agg #[.int .i64 0, .int .i64 0, .int .i64 0, .string ⟨#[]⟩, .int .u8 0, .string ⟨#[]⟩, .slice none 0 0]), 7, 88) := by kernel_rfl
theorem reg_ones : ∀ (r : Reg), ∀ u ∈ r.vals, u.oneCell' = true := by intro r u hu; simp [Reg.vals] at hu; rcases hu with rfl | rfl | rfl | rfl | rfl | rfl | rfl <;> rfl
theorem com_ones : ∀ (r : Com), ∀ u ∈ r.vals, u.oneCell' = true := by intro r u hu; simp [Com.vals] at hu; rcases hu with rfl | rfl | rfl | rfl | rfl | rfl | rfl | rfl <;> rfl
theorem eh_ones : ∀ (r : EH), ∀ u ∈ r.vals, u.oneCell' = true := by intro r u hu; simp [EH.vals] at hu; rcases hu with rfl | rfl | rfl | rfl | rfl | rfl | rfl <;> rfl
def CloneRegsPost (l : List Reg) (n : Nat) (w : World) (e : Ending) (w' : World) : Prop :=
 ∃ A c, e = .returned (.slice A n c) ∧ w'.ownsRow w.heap.size 105 7 (.slice A n c) n (l.flatMap Reg.vals) ∧ Ext w w'
set_option maxHeartbeats 1000000 in
theorem CloneRegs_any (A : Option Addr) (n c : Nat) (l : List Reg) (w : World) (hl : Sl w 7 (Cells Reg.vals) A n l) (hn : n * 56 ≤ 140737488355328) :
 Calls Tryz.prog 116 #[.slice A n c] w (CloneRegsPost l n w) := by
 have hq := fun w => Lib.run_eql_slice_nil (P := Tryz.prog) w 48 105 A n c 0 0 Tryz.underlying48
 have HL := Lib.hid hl
 clear hl
 cases A with
 | none =>
  have hn0 : n = 0 := by
   rcases Nat.eq_zero_or_pos n with h | h
   · exact h
   · obtain ⟨_, _, h, _⟩ := HL.out.2 h; cases h
  subst hn0
  have hs0 : l = [] := List.eq_nil_of_length_eq_zero HL.out.len
  subst hs0
  simp only [Option.isNone_none] at hq
  go_enter Tryz.func116, Tryz.ntmps116
  go_wp2_with fail
  go_ret
  exact ⟨none, 0, rfl, ⟨rfl, .inl ⟨rfl, rfl⟩⟩, Ext.refl _⟩
 | some ad =>
  simp only [Option.isNone_some] at hq
  go_enter Tryz.func116, Tryz.ntmps116
  go_wp2_with (at_builtin; refine wpList_appendS rfl (.tmp 5) (.tmp 6) 48 rfl info_regI Tryz.underlying48 rfl (by decide) (by exact own_nil0 w _ _ w.heap.size (Nat.le_refl _)) (by exact rfl) (by exact rfl) (by exact Sl.ext (Cells.stays _) HL.out ((Ext.refl w).alloc _)) (fun _ => rfl) reg_ones (by omega) (by simp [maxLen]; omega) (by simp) ?_; intro v' w' hown hgr hnil)
  go_ret
  simp only [Nat.zero_add, List.nil_append] at hown
  obtain ⟨A', c', rfl, hc, _, hsl, hfr⟩ := own_sl (f := Reg.vals) (size := 7) (fun _ => rfl) HL.out.len hown
  exact ⟨A', c', rfl, hown, ((Ext.refl w).alloc _).grown hgr (fun q hq => by simp [Value.ownBlock] at hq; omega)⟩
def CloneComsPost (l : List Com) (n : Nat) (w : World) (e : Ending) (w' : World) : Prop :=
 ∃ A c, e = .returned (.slice A n c) ∧ w'.ownsRow w.heap.size 152 8 (.slice A n c) n (l.flatMap Com.vals) ∧ Ext w w'
set_option maxHeartbeats 1000000 in
theorem CloneComs_any (A : Option Addr) (n c : Nat) (l : List Com) (w : World) (hl : Sl w 8 (Cells Com.vals) A n l) (hn : n * 72 ≤ 140737488355328) :
 Calls Tryz.prog 117 #[.slice A n c] w (CloneComsPost l n w) := by
 have hq := fun w => Lib.run_eql_slice_nil (P := Tryz.prog) w 50 152 A n c 0 0 Tryz.underlying50
 have HL := Lib.hid hl
 clear hl
 cases A with
 | none =>
  have hn0 : n = 0 := by
   rcases Nat.eq_zero_or_pos n with h | h
   · exact h
   · obtain ⟨_, _, h, _⟩ := HL.out.2 h; cases h
  subst hn0
  have hs0 : l = [] := List.eq_nil_of_length_eq_zero HL.out.len
  subst hs0
  simp only [Option.isNone_none] at hq
  go_enter Tryz.func117, Tryz.ntmps117
  go_wp2_with fail
  go_ret
  exact ⟨none, 0, rfl, ⟨rfl, .inl ⟨rfl, rfl⟩⟩, Ext.refl _⟩
 | some ad =>
  simp only [Option.isNone_some] at hq
  go_enter Tryz.func117, Tryz.ntmps117
  go_wp2_with (at_builtin; refine wpList_appendS rfl (.tmp 5) (.tmp 6) 50 rfl info_comI Tryz.underlying50 rfl (by decide) (by exact own_nil0 w _ _ w.heap.size (Nat.le_refl _)) (by exact rfl) (by exact rfl) (by exact Sl.ext (Cells.stays _) HL.out ((Ext.refl w).alloc _)) (fun _ => rfl) com_ones (by omega) (by simp [maxLen]; omega) (by simp) ?_; intro v' w' hown hgr hnil)
  go_ret
  simp only [Nat.zero_add, List.nil_append] at hown
  obtain ⟨A', c', rfl, hc, _, hsl, hfr⟩ := own_sl (f := Com.vals) (size := 8) (fun _ => rfl) HL.out.len hown
  exact ⟨A', c', rfl, hown, ((Ext.refl w).alloc _).grown hgr (fun q hq => by simp [Value.ownBlock] at hq; omega)⟩
def CloneEHsPost (l : List EH) (n : Nat) (w : World) (e : Ending) (w' : World) : Prop :=
 ∃ A c, e = .returned (.slice A n c) ∧ w'.ownsRow w.heap.size 64 7 (.slice A n c) n (l.flatMap EH.vals) ∧ Ext w w'
set_option maxHeartbeats 1000000 in
theorem CloneEHs_any (A : Option Addr) (n c : Nat) (l : List EH) (w : World) (hl : Sl w 7 (Cells EH.vals) A n l) (hn : n * 88 ≤ 140737488355328) :
 Calls Tryz.prog 118 #[.slice A n c] w (CloneEHsPost l n w) := by
 have hq := fun w => Lib.run_eql_slice_nil (P := Tryz.prog) w 49 64 A n c 0 0 Tryz.underlying49
 have HL := Lib.hid hl
 clear hl
 cases A with
 | none =>
  have hn0 : n = 0 := by
   rcases Nat.eq_zero_or_pos n with h | h
   · exact h
   · obtain ⟨_, _, h, _⟩ := HL.out.2 h; cases h
  subst hn0
  have hs0 : l = [] := List.eq_nil_of_length_eq_zero HL.out.len
  subst hs0
  simp only [Option.isNone_none] at hq
  go_enter Tryz.func118, Tryz.ntmps118
  go_wp2_with fail
  go_ret
  exact ⟨none, 0, rfl, ⟨rfl, .inl ⟨rfl, rfl⟩⟩, Ext.refl _⟩
 | some ad =>
  simp only [Option.isNone_some] at hq
  go_enter Tryz.func118, Tryz.ntmps118
  go_wp2_with (at_builtin; refine wpList_appendS rfl (.tmp 5) (.tmp 6) 49 rfl info_evtI Tryz.underlying49 rfl (by decide) (by exact own_nil0 w _ _ w.heap.size (Nat.le_refl _)) (by exact rfl) (by exact rfl) (by exact Sl.ext (Cells.stays _) HL.out ((Ext.refl w).alloc _)) (fun _ => rfl) eh_ones (by omega) (by simp [maxLen]; omega) (by simp) ?_; intro v' w' hown hgr hnil)
  go_ret
  simp only [Nat.zero_add, List.nil_append] at hown
  obtain ⟨A', c', rfl, hc, _, hsl, hfr⟩ := own_sl (f := EH.vals) (size := 7) (fun _ => rfl) HL.out.len hown
  exact ⟨A', c', rfl, hown, ((Ext.refl w).alloc _).grown hgr (fun q hq => by simp [Value.ownBlock] at hq; omega)⟩
theorem RegsAt.vals {w : World} {A : Option Addr} {n : Nat} {l : List Reg} (h : RegsAt w A n l) : Sl w 7 (Cells Reg.vals) A n l := Sl.change h fun _ _ _ => cells_regC
theorem evs_heads {w : World} {A : Option Addr} {n : Nat} {l : List Ev} (h : EvsAt w A n l) : ∃ hs : List EH, Sl w 7 (Cells EH.vals) A n hs ∧ ∀ (i : Nat) (x : EH) (e : Ev), hs[i]? = some x → l[i]? = some e → x = EH.of e x.A x.n x.c ∧ EvAt w e x.A x.n x.c := by
 have hall : ∀ i : Nat, ∃ x : EH, i < n → (∀ b off, A = some ⟨b, off, none⟩ → ∀ j u, x.vals[j]? = some u → w.cell? ⟨b, off + i * 7 + j, none⟩ = some u) ∧ ∀ e, l[i]? = some e → x = EH.of e x.A x.n x.c ∧ EvAt w e x.A x.n x.c := by
  intro i
  by_cases hi : i < n
  · obtain ⟨b, off, e, hA, he, A', n', c', h1, h2⟩ := h.at_ hi
    refine ⟨EH.of e A' n' c', fun _ => ⟨fun b' off' hA' => ?_, fun e' he' => ?_⟩⟩
    · rw [hA] at hA'
      cases hA'
      exact h1
    · rw [he] at he'
      cases he'
      exact ⟨rfl, h2⟩
  · exact ⟨⟨0, 0, 0, ⟨#[]⟩, 0, ⟨#[]⟩, none, 0, 0⟩, fun h => absurd h hi⟩
 obtain ⟨f, hf⟩ := Classical.axiomOfChoice hall
 have hat : ∀ (i : Nat) (x : EH), ((List.range n).map f)[i]? = some x → i < n ∧ x = f i := fun i x hx => by
  have hi : i < n := by
   have := (List.getElem?_eq_some_iff.1 hx).1
   simpa using this
  rw [List.getElem?_map, List.getElem?_range hi] at hx
  exact ⟨hi, (Option.some.inj hx).symm⟩
 refine ⟨(List.range n).map f, ⟨by simp, fun hn => ?_⟩, fun i x e hx he => ?_⟩
 · obtain ⟨b, off, hA, _⟩ := h.2 hn
   refine ⟨b, off, hA, fun i x hx j u hu => ?_⟩
   obtain ⟨hi, rfl⟩ := hat i x hx
   exact (hf i hi).1 b off hA j u hu
 · obtain ⟨hi, rfl⟩ := hat i x hx
   exact (hf i hi).2 e he
end
section
open Go.RowKit Go.Shelf Go.Sort
def rgIx (l : List Reg) (g : Reg) : Int := match l.findIdx? (fun x => decide (x = g)) with | some k => (k : Int) | none => -1
theorem rgIx_has (l : List Reg) (g : Reg) : decide (rgIx l g ≥ 0) = decide (g ∈ l) := by
 unfold rgIx
 cases h : l.findIdx? (fun x => decide (x = g)) with
 | none =>
  have := List.findIdx?_eq_none_iff.1 h
  have hg : ¬ g ∈ l := fun hg => by
   have := this g hg
   simp at this
  simp [hg]
 | some k =>
  obtain ⟨hk, h1, -⟩ := List.findIdx?_eq_some_iff_getElem.1 h
  have h1 : l[k] = g := by simpa using h1
  have hg : g ∈ l := by rw [← h1]; exact List.getElem_mem hk
  simp [hg]
theorem rgIx_step {l : List Reg} {k : Nat} {x g : Reg} (hx : l[k]? = some x) (hp : ∀ y ∈ l.take k, y ≠ g) : (x = g → rgIx l g = k) ∧ (x ≠ g → ∀ y ∈ l.take (k + 1), y ≠ g) := by
 obtain ⟨hk, hxk⟩ := List.getElem?_eq_some_iff.1 hx
 refine ⟨fun h => ?_, fun h y hy => ?_⟩
 · have : l.findIdx? (fun x => decide (x = g)) = some k := List.findIdx?_eq_some_iff_getElem.2 ⟨hk, by simp [hxk, h], fun j hj => by
    have := hp l[j] (List.mem_take_iff_getElem.2 ⟨j, by omega, rfl⟩)
    simp [this]⟩
   unfold rgIx
   rw [this]
 · rw [take_snoc' _ _ _ hx] at hy
   rcases List.mem_append.1 hy with hy | hy
   · exact hp y hy
   · simp at hy; subst hy; exact h
theorem rgIx_none {l : List Reg} {g : Reg} (hp : ∀ y ∈ l, y ≠ g) : rgIx l g = -1 := by
 unfold rgIx
 rw [List.findIdx?_eq_none_iff.2 (fun y hy => by simpa using hp y hy)]
def RiRel (w : World) (n : Nat) (l : List Reg) (g : Reg) (i : Value) (wr : World) : Prop := ∃ k : Nat, k ≤ n ∧ i = .int .i64 k ∧ Ext w wr ∧ ∀ y ∈ l.take k, y ≠ g
set_option maxRecDepth 100000 in
set_option maxHeartbeats 4000000 in
theorem RgIndex_any (A : Option Addr) (n c : Nat) (l : List Reg) (g : Reg) (w : World) (hl : RegsAt w A n l) (hn : n ≤ 4611686018427387904) :
 Calls Tryz.prog 166 #[.slice A n c, g.val] w fun e w' => e = .returned (.int .i64 (rgIx l g)) ∧ Ext w w' := by
 have HL := Lib.hid hl
 have HLn := Lib.hid hl.len
 have HX0 := Lib.hid ((Ext.refl w).alloc (.cells #[.string g.name, .int .i64 g.top, .int .i64 g.height, .int .i64 g.left, .int .i64 g.width, .int .u8 g.align, .bool g.bottom] 105))
 have HB0 := Lib.hid (Blk.new w 105 #[.string g.name, .int .i64 g.top, .int .i64 g.height, .int .i64 g.left, .int .i64 g.width, .int .u8 g.align, .bool g.bottom])
 clear hl
 unfold Reg.val
 go_enter Tryz.func166, Tryz.ntmps166
 go_wp2_with fail
 go_loopw [8] (fun i wr => RiRel (w.alloc (.cells #[.string g.name, .int .i64 g.top, .int .i64 g.height, .int .i64 g.left, .int .i64 g.width, .int .u8 g.align, .bool g.bottom] 105)) n l g i wr) (fun i _ => n - (intOf i).toNat)
 case atStart => exact ⟨0, Nat.zero_le _, rfl, Ext.refl _, by simp⟩
 case round =>
  obtain ⟨k, hk, rfl, hx, hp⟩ := hrel
  have HX := Lib.hid hx
  have HP := Lib.hid hp
  have HBg := Lib.hid (HB0.out.ext hx)
  have g0 := HBg.out.cell 0
  have g1 := HBg.out.cell 1
  have g2 := HBg.out.cell 2
  have g3 := HBg.out.cell 3
  have g4 := HBg.out.cell 4
  have g5 := HBg.out.cell 5
  have g6 := HBg.out.cell 6
  simp only [List.getElem?_toArray, List.getElem?_cons_zero, List.getElem?_cons_succ] at g0 g1 g2 g3 g4 g5 g6
  clear hx hp
  by_cases hlt : k < n
  · obtain ⟨b, off, r, rfl, hr, c0, c1, c2, c3, c4, c5, c6⟩ := (HL.out.ext (HX0.out.trans HX.out)).at_ hlt
    have HS := Lib.hid (rgIx_step hr HP.out)
    have hk0 : (0 : Int) ≤ (k : Int) := by omega
    have hk1 : (k : Int) < (n : Int) := by omega
    clear hr
    by_cases hq : r = g
    · have HT := Lib.hid (HS.out.1 hq)
      subst hq
      have he := fun w => eql_reg_yes r w
      unfold Reg.val at he
      go_wp2_with fail
      go_quiet (fail)
      go_wp2_with fail
      go_ret
      exact ⟨ret_int HT.out.symm, (HX0.out.trans HX.out).drewN _⟩
    · have HT := Lib.hid (HS.out.2 hq)
      have he := fun w => eql_reg_no (fun h => hq (Eq.symm h) : ¬ g = r) w
      unfold Reg.val at he
      clear hq
      go_wp2_with fail
      go_quiet (fail)
      go_wp2_with fail
      exact ⟨⟨k + 1, by omega, by go_num, HX.out.drewN _, HT.out⟩, by simp [intOf]; omega⟩
  · have hkn : k = n := by omega
    subst hkn
    have HT : Hid (rgIx l g = -1) := rgIx_none (by have := HP.out; rwa [List.take_of_length_le (by have := HLn.out; omega)] at this)
    go_wp2_with fail
    go_ret
    exact ⟨ret_int HT.out.symm, HX0.out.trans HX.out⟩
set_option maxRecDepth 100000 in
set_option maxHeartbeats 1000000 in
theorem RgContains_any (A : Option Addr) (n c : Nat) (l : List Reg) (g : Reg) (w : World) (hl : RegsAt w A n l) (hn : n ≤ 4611686018427387904) :
 Calls Tryz.prog 102 #[.slice A n c, g.val] w fun e w' => e = .returned (.bool (decide (g ∈ l))) ∧ Ext w w' := by
 have HX0 := Lib.hid ((Ext.refl w).alloc (.cells #[.string g.name, .int .i64 g.top, .int .i64 g.height, .int .i64 g.left, .int .i64 g.width, .int .u8 g.align, .bool g.bottom] 105))
 have HB0 := Lib.hid (Blk.new w 105 #[.string g.name, .int .i64 g.top, .int .i64 g.height, .int .i64 g.left, .int .i64 g.width, .int .u8 g.align, .bool g.bottom])
 have HI := Lib.hid (RgIndex_any A n c l g _ (hl.ext HX0.out) hn)
 have HF := Lib.hid (rgIx_has l g)
 clear hl
 generalize rgIx l g = ix at *
 unfold Reg.val at *
 go_enter Tryz.func102, Tryz.ntmps102
 go_wp2_with (refine wpList_loadB rfl 105 (.tmp 3) rfl w.heap.size 105 _ _ (by exact rfl) (by exact HB0.out) Tryz.underlying105 rfl (by exact info_reg) ?_)
 refine HI.out.mono ?_
 rintro e w1 ⟨rfl, hx⟩
 have HX1 := Lib.hid (HX0.out.trans hx)
 clear hx
 go_wp2_with fail
 go_ret
 exact ⟨ret_bool HF.out, HX1.out⟩
def cmpB (a b : ByteArray) : Int := if Op.bytesLess a.toList b.toList = true then -1 else if Op.bytesLess b.toList a.toList = true then 1 else 0
theorem isNaNs_any (a : ByteArray) (w : World) : Calls Tryz.prog 169 #[.string a] w fun e w' => e = .returned (.bool false) ∧ w = w' := by
 go_enter Tryz.func169, Tryz.ntmps169
 go_wp2
 go_ret
 exact ⟨by simp, rfl⟩
theorem less_gt (a b : ByteArray) : (Op.bytesLess a.toList b.toList || a.toList == b.toList) = !Op.bytesLess b.toList a.toList := by
 rw [bytesLess_eq, bytesLess_eq]
 by_cases h : b.toList < a.toList
 · have h1 : ¬ a.toList < b.toList := fun k => Bs.lt_irrefl _ (Bs.lt_trans h k)
   have h2 : ¬ a.toList = b.toList := fun k => by rw [k] at h; exact Bs.lt_irrefl _ h
   simp [h, h1, h2]
 · rcases Classical.em (a.toList = b.toList) with h1 | h1
   · simp [h, h1]
   · have h2 : a.toList < b.toList := Bs.lt_of_le_of_ne (List.not_lt.1 h) h1
     simp [h, h2]
set_option maxHeartbeats 1000000 in
theorem Compares_any (a b : ByteArray) (w : World) : Calls Tryz.prog 105 #[.string a, .string b] w fun e w' => e = .returned (.int .i64 (cmpB a b)) ∧ w = w' := by
 have HG := Lib.hid (less_gt a b)
 cases h1 : Op.bytesLess a.toList b.toList with
 | true =>
  have HF : Hid (cmpB a b = -1) := by show _ = _; unfold cmpB; rw [if_pos h1]
  go_enter Tryz.func105, Tryz.ntmps105
  go_wp2_with (first | (go_at_call 169; refine (isNaNs_any _ _).mono ?_; rintro e w' ⟨rfl, rfl⟩))
  go_ret
  exact ⟨ret_int HF.out.symm, rfl⟩
 | false =>
  cases h2 : Op.bytesLess b.toList a.toList with
  | true =>
   have HF : Hid (cmpB a b = 1) := by show _ = _; unfold cmpB; rw [h1, if_neg (by decide), if_pos h2]
   have h3 : (a.toList == b.toList) = false := by have := HG.out; rw [h1, h2] at this; simpa using this
   go_enter Tryz.func105, Tryz.ntmps105
   go_wp2_with (first | (go_at_call 169; refine (isNaNs_any _ _).mono ?_; rintro e w' ⟨rfl, rfl⟩))
   go_ret
   exact ⟨ret_int HF.out.symm, rfl⟩
  | false =>
   have HF : Hid (cmpB a b = 0) := by show _ = _; unfold cmpB; rw [h1, h2]; rfl
   have h3 : (a.toList == b.toList) = true := by have := HG.out; rw [h1, h2] at this; simpa using this
   go_enter Tryz.func105, Tryz.ntmps105
   go_wp2_with (first | (go_at_call 169; refine (isNaNs_any _ _).mono ?_; rintro e w' ⟨rfl, rfl⟩))
   go_ret
   exact ⟨ret_int HF.out.symm, rfl⟩
instance : Inhabited Reg := ⟨Reg.zero⟩
def cmpRg (x y : Reg) : Int := cmpB x.name y.name
def ltRg (x y : Reg) : Bool := Op.bytesLess x.name.toList y.name.toList
theorem ltRg_iff (x y : Reg) : ltRg x y = true ↔ nmR x < nmR y := by unfold ltRg nmR; rw [bytesLess_eq]; simp
theorem ltOf_Rg : ltOf cmpRg = ltRg := by
 funext x y
 unfold ltOf cmpRg ltRg cmpB
 cases Op.bytesLess x.name.toList y.name.toList
 · rw [if_neg (by decide)]
   split <;> simp
 · rw [if_pos rfl]; simp
theorem ltRg_swo : SWO ltRg where
 irrefl x := by
  cases h : ltRg x x with
  | false => rfl
  | true => exact absurd ((ltRg_iff x x).1 h) (Bs.lt_irrefl _)
 trans x y z h1 h2 := (ltRg_iff x z).2 (Bs.lt_trans ((ltRg_iff x y).1 h1) ((ltRg_iff y z).1 h2))
 ntrans x y z h1 h2 := by
  have h1 : ¬ nmR x < nmR y := fun h => by rw [(ltRg_iff x y).2 h] at h1; cases h1
  have h2 : ¬ nmR y < nmR z := fun h => by rw [(ltRg_iff y z).2 h] at h2; cases h2
  have h3 : ¬ nmR x < nmR z := leR_trans (x := z) (y := y) (z := x) h2 h1
  cases h : ltRg x z with
  | false => rfl
  | true => exact absurd ((ltRg_iff x z).1 h) h3
theorem cmpRg_enter : ∀ args w, (callFunc 104 args).run Tryz.prog w = .ok (.enter 104 args) w := Go.Proofs.enters_of Tryz.func104 (by kernel_rfl) rfl
set_option maxRecDepth 100000 in
set_option maxHeartbeats 1000000 in
theorem cmpRg_any (x y : Reg) (w : World) : Calls Tryz.prog 104 #[.agg x.vals.toArray, .agg y.vals.toArray] w fun e w' => e = .returned (.int .i64 (cmpRg x y)) ∧ Extd w w' := by
 show Calls Tryz.prog 104 #[.agg #[.string x.name, .int .i64 x.top, .int .i64 x.height, .int .i64 x.left, .int .i64 x.width, .int .u8 x.align, .bool x.bottom], .agg #[.string y.name, .int .i64 y.top, .int .i64 y.height, .int .i64 y.left, .int .i64 y.width, .int .u8 y.align, .bool y.bottom]] w _
 have HX := Lib.hid (((Extd.refl w).alloc (.cells #[.string x.name, .int .i64 x.top, .int .i64 x.height, .int .i64 x.left, .int .i64 x.width, .int .u8 x.align, .bool x.bottom] 105)).alloc (.cells #[.string y.name, .int .i64 y.top, .int .i64 y.height, .int .i64 y.left, .int .i64 y.width, .int .u8 y.align, .bool y.bottom] 105))
 have HC := Lib.hid (fun w' => Compares_any x.name y.name w')
 unfold cmpRg
 generalize cmpB x.name y.name = r at *
 go_enter Tryz.func104, Tryz.ntmps104
 go_wp2_with fail
 refine (HC.out _).mono ?_
 rintro e w1 ⟨rfl, rfl⟩
 go_wp2_with fail
 go_ret
 exact ⟨rfl, HX.out⟩
theorem arr_sortedRg {d : Array Reg} (h : SortedIn ltRg 0 d.size d) : d.toList.Pairwise LeR := by
 refine List.pairwise_iff_getElem.2 fun i j hi hj hij => ?_
 have hi' : i < d.size := by simpa using hi
 have hj' : j < d.size := by simpa using hj
 have := h i j (Nat.zero_le _) hij hj'
 rw [getElem!_pos d j hj', getElem!_pos d i hi'] at this
 intro hc
 have h2 := (ltRg_iff _ _).2 hc
 simp only [Array.getElem_toList] at h2
 rw [h2] at this
 cases this
theorem SortNoneRg (F : Value) (w : World) : Calls Tryz.prog 103 #[.slice none 0 0, F] w fun e w' => e = .returned (.tuple #[]) ∧ w' = w := AnyF.slices_SortFunc_none Tryz.srtReg none 0 F w
theorem SortRg_own {w0 w : World} {L g n c : Nat} {l : List Reg} (hx : Ext w0 w) (hL : w0.heap.size ≤ L) (h1 : w.ownsRow L 105 7 (.slice (some ⟨g, 0, none⟩) n c) n (l.flatMap Reg.vals)) (hl : l.length = n) (hn : n < 4611686018427387904) :
 Calls Tryz.prog 103 #[.slice (some ⟨g, 0, none⟩) n c, .func (.func 104) #[] #[]] w fun e w' => e = .returned (.tuple #[]) ∧ Ext w0 w' ∧ ∃ l' : List Reg, l'.Perm l ∧ l'.Pairwise LeR ∧ w'.ownsRow L 105 7 (.slice (some ⟨g, 0, none⟩) n c) n (l'.flatMap Reg.vals) := by
 have hLg : L ≤ g := own_lt h1 g rfl
 have hg : g < w.heap.size := by
  rcases h1.2 with ⟨hv, -⟩ | ⟨g', cap, cur, hv, -, hb, -⟩
  · cases hv
  · cases hv; exact (Array.getElem?_eq_some_iff.1 hb).1
 have hz : l.toArray.size = n := by simp [hl]
 have hH := own_holds (enc := Reg.vals) (k := 7) (fun _ => rfl) h1 hl
 have hcmp : CmpLays Tryz.prog 104 #[] Reg.vals 7 cmpRg g 0 l.toArray.size w := fun m os dk hs x y => (cmpRg_any x y _).mono fun e w' ⟨he, hx⟩ => ⟨he, hx.grow⟩
 have hcon := AnyQ.slices_SortFunc Tryz.srtReg 7 Tryz.isAgg105 Tryz.sizeOf105 Reg.vals (fun _ => rfl) reg_ones cmpRg (by rw [ltOf_Rg]; exact ltRg_swo) 104 #[] g 0 c l.toArray w cmpRg_enter hcmp hH hg (by rw [hz]; exact hn)
 rw [hz, ltOf_Rg] at hcon
 refine Calls.mono hcon ?_
 rintro e w' ⟨rfl, d', m, os, hp, hs, rfl⟩
 obtain ⟨hsz, -, hperm⟩ := hp
 have hd : d'.size = n := by rw [hsz, hz]
 have e1 : d'.extract 0 n = d' := by rw [← hd]; exact Array.extract_size
 have e2 : l.toArray.extract 0 n = l.toArray := by rw [← hz]; exact Array.extract_size
 rw [e1, e2] at hperm
 have hS : SWK Reg.vals 7 w g 0 d'.toList.toArray (sortWorldK Reg.vals 7 w g 0 m d' os) := ⟨m, os, by simp⟩
 have hO := swk_own (enc := Reg.vals) (fun _ => rfl) h1 hS (by simpa using hd)
 exact ⟨rfl, hx.grown (swk_grown (enc := Reg.vals) (k := 7) (g := g) (l := d'.toList) ⟨m, os, by simp⟩) (fun q hq => by cases hq; omega), d'.toList, by simpa using hperm, arr_sortedRg (by rw [hd]; exact hs), hO⟩
theorem uqR_snoc (l : List Reg) (g : Reg) : uqR (l ++ [g]) = uqStep (uqR l) g := by unfold uqR; rw [List.foldl_append]; rfl
theorem uqR_len : ∀ l : List Reg, (uqR l).length ≤ l.length := by
 have h : ∀ (l o : List Reg), (l.foldl uqStep o).length ≤ o.length + l.length := by
  intro l
  induction l with
  | nil => intro o; simp
  | cons g l ih =>
   intro o
   rw [List.foldl_cons]
   refine Nat.le_trans (ih _) ?_
   unfold uqStep
   split <;> simp <;> omega
 intro l
 have := h l []
 simpa [uqR] using this
theorem allR_take {l : List RDoc} {k : Nat} {d : RDoc} (h : l[k]? = some d) : allR (l.take (k + 1)) = allR (l.take k) ++ d.doc.regs := by
 unfold allR
 rw [take_snoc' _ _ _ h]; simp
theorem own_regs {w : World} {L : Nat} {v : Value} {l : List Reg} (h : w.ownsRow L 105 7 v l.length (l.flatMap Reg.vals)) : ∃ A c, v = .slice A l.length c ∧ l.length ≤ c ∧ RegsAt w A l.length l := by
 obtain ⟨A, c, hv, hc, -, hS, -⟩ := own_sl (f := Reg.vals) (size := 7) (fun _ => rfl) rfl h
 exact ⟨A, c, hv, hc, Sl.change (D := RegC) hS fun b o r hm => regC_cells hm⟩
def Rg1Rel (w : World) (n : Nat) (l : List RDoc) (v i : Value) (wr : World) : Prop :=
 ∃ k : Nat, k ≤ n ∧ i = .int .i64 k ∧ Ext w wr ∧ wr.ownsRow w.heap.size 105 7 v (uqR (allR (l.take k))).length ((uqR (allR (l.take k))).flatMap Reg.vals)
def Rg2Rel (w : World) (m : Nat) (P rs : List Reg) (v i : Value) (wr : World) : Prop :=
 ∃ j : Nat, j ≤ m ∧ i = .int .i64 j ∧ Ext w wr ∧ wr.ownsRow w.heap.size 105 7 v (uqR (P ++ rs.take j)).length ((uqR (P ++ rs.take j)).flatMap Reg.vals)
theorem allR_len : ∀ {l : List RDoc}, (∀ d ∈ l, d.doc.regs.length ≤ 16) → (allR l).length ≤ l.length * 16
 | [], _ => by simp [allR]
 | d :: l, h => by
  have h1 := h d (by simp)
  have h2 := allR_len (l := l) (fun x hx => h x (by simp [hx]))
  have e : allR (d :: l) = d.doc.regs ++ allR l := by unfold allR; rw [List.flatMap_cons]
  rw [e, List.length_append, List.length_cons]
  omega
set_option maxRecDepth 100000 in
set_option maxHeartbeats 8000000 in
theorem Regions_any (A : Option Addr) (n c : Nat) (l : List RDoc) (w : World) (hl : RDocsAt w A n l) (hn : n ≤ 16) (hr16 : ∀ d ∈ l, d.doc.regs.length ≤ 16) :
 Calls Tryz.prog 49 #[.slice A n c] w fun e w' => ∃ (v : Value) (m : List Reg), e = .returned v ∧ m.Perm (uqR (allR l)) ∧ m.Pairwise LeR ∧ w'.ownsRow w.heap.size 105 7 v m.length (m.flatMap Reg.vals) ∧ Ext w w' := by
 have HL := Lib.hid hl
 have HLn := Lib.hid hl.len
 have HR16 := Lib.hid hr16
 clear hl hr16
 go_enter Tryz.func49, Tryz.ntmps49
 go_wp2_with fail
 go_loopw [3, 10] (fun v i wr => Rg1Rel w n l v i wr) (fun _ i _ => n - (intOf i).toNat)
 case atStart => exact ⟨0, Nat.zero_le _, rfl, Ext.refl _, ⟨rfl, .inl ⟨rfl, rfl⟩⟩⟩
 case round =>
  obtain ⟨k, hk, rfl, hx, hown⟩ := hrel
  have HX := Lib.hid hx
  have HO := Lib.hid hown
  have hzr := hx.size
  clear hx hown
  by_cases hlt : k < n
  · obtain ⟨b, off, d, h, rfl, hdk, hat, hsz, c0, c1, c2, c3, c4, c5, c6, c7, c8⟩ := HL.out.at9 hlt
    replace c0 := HX.out.cell c0
    replace c1 := HX.out.cell c1
    replace c2 := HX.out.cell c2
    replace c3 := HX.out.cell c3
    replace c4 := HX.out.cell c4
    replace c5 := HX.out.cell c5
    replace c6 := HX.out.cell c6
    replace c7 := HX.out.cell c7
    replace c8 := HX.out.cell c8
    obtain ⟨ra, rn, rc, ea, en, ec, ca, cn, cc⟩ := h
    have HRg := Lib.hid hat.regs
    have HDk := Lib.hid (allR_take hdk)
    have hr1 := HR16.out d (List.mem_of_getElem? hdk)
    have hP : (allR (l.take k)).length ≤ 256 := by
     have h1 := allR_len (l := l.take k) (fun x hx => HR16.out x (List.mem_of_mem_take hx))
     rw [List.length_take] at h1
     omega
    have hrl := hat.regs.len
    dsimp only at HRg hrl
    have hrn : rn ≤ 16 := by omega
    clear hdk hat hsz
    generalize allR (l.take k) = P at *
    have HBd := Lib.hid (Blk.new wr 58 (d.cells ⟨ra, rn, rc, ea, en, ec, ca, cn, cc⟩))
    have HX1 := Lib.hid (HX.out.alloc (.cells (d.cells ⟨ra, rn, rc, ea, en, ec, ca, cn, cc⟩) 58))
    have HO1 := Lib.hid (HO.out.alloc (.cells (d.cells ⟨ra, rn, rc, ea, en, ec, ca, cn, cc⟩) 58))
    unfold RDoc.cells at HBd HX1 HO1
    dsimp only at HBd HX1 HO1
    go_upto_region 5 with fail
    obtain ⟨gx, hgx⟩ : ∃ gx, gx = wr.heap.size := ⟨_, rfl⟩
    rw [← hgx] at HBd ⊢
    obtain ⟨w1, hw1⟩ : ∃ w1, w1 = wr.alloc (.cells #[.string d.reel, .string d.doc.title, .string d.doc.lang, .int .u8 d.doc.rate, .bool d.doc.drop, .int .i64 d.doc.last, .slice ra rn rc, .slice ea en ec, .slice ca cn cc] 58) := ⟨_, rfl⟩
    rw [← hw1] at HBd HX1 HO1 ⊢
    clear hw1 hgx c0 c1 c2 c3 c4 c5 c6 c7 c8 HO
    have b6 := HBd.out.cell 6
    simp only [List.getElem?_toArray, List.getElem?_cons_zero, List.getElem?_cons_succ] at b6
    go_wp2_with fail
    clear b6
    go_loopw [3, 18] (fun v i wq => Rg2Rel w rn P d.doc.regs v i wq) (fun _ i _ => rn - (intOf i).toNat)
    case atStart => exact ⟨0, Nat.zero_le _, rfl, HX1.out, by simpa using HO1.out⟩
    case round =>
     obtain ⟨j, hj, rfl, hxq, hown⟩ := hrel
     have HXq := Lib.hid hxq
     have HOq := Lib.hid hown
     have hzq := hxq.size
     have hql : (uqR (P ++ d.doc.regs.take j)).length ≤ 256 + j := by have := uqR_len (P ++ d.doc.regs.take j); rw [List.length_append, List.length_take] at this; omega
     clear hxq hown
     by_cases hjt : j < rn
     · obtain ⟨b2, off2, r, rfl, hrk, d0, d1, d2, d3, d4, d5, d6⟩ := (HRg.out.ext HXq.out).at_ hjt
       have HT : Hid (uqR (P ++ d.doc.regs.take (j + 1)) = uqStep (uqR (P ++ d.doc.regs.take j)) r) := by show _ = _; rw [take_snoc' _ _ _ hrk, ← List.append_assoc, uqR_snoc]
       clear hrk
       generalize uqR (P ++ d.doc.regs.take j) = os at *
       have HBr := Lib.hid (Blk.new wr 105 #[.string r.name, .int .i64 r.top, .int .i64 r.height, .int .i64 r.left, .int .i64 r.width, .int .u8 r.align, .bool r.bottom])
       have HXr := Lib.hid ((Ext.refl wr).alloc (.cells #[.string r.name, .int .i64 r.top, .int .i64 r.height, .int .i64 r.left, .int .i64 r.width, .int .u8 r.align, .bool r.bottom] 105))
       have HO3 := Lib.hid (own_ext HOq.out HXr.out)
       obtain ⟨A', c', rfl, hc', hRA⟩ := own_regs HO3.out
       have HC := Lib.hid (RgContains_any A' os.length c' os r _ hRA (by omega))
       clear hRA
       unfold Reg.val at HC
       go_wp2_with (refine wpList_loadB rfl 105 (.tmp 7) rfl wr.heap.size 105 _ _ (by exact rfl) (by exact HBr.out) Tryz.underlying105 rfl (by exact info_reg) ?_)
       refine HC.out.mono ?_
       rintro e w4 ⟨rfl, hx4⟩
       have HX4 := Lib.hid (HXr.out.trans hx4)
       have HB4 := Lib.hid (HBr.out.ext hx4)
       have HO4 := Lib.hid (own_ext HO3.out hx4)
       have hz4 := HX4.out.size
       clear hx4 HC
       by_cases hin : r ∈ os
       · have e1 : decide (r ∈ os) = true := by simpa using hin
         unfold uqStep at HT
         rw [if_pos hin] at HT
         clear hin
         go_wp2_with fail
         exact ⟨⟨j + 1, by omega, by go_num, HXq.out.trans HX4.out, by rw [HT.out]; exact HO4.out⟩, by simp [intOf]; omega⟩
       · have e1 : decide (r ∈ os) = false := by simpa using hin
         unfold uqStep at HT
         rw [if_neg hin] at HT
         clear hin
         go_wp2_with (first | (refine wpList_loadB rfl 105 (.tmp 7) rfl wr.heap.size 105 _ _ (by exact rfl) (by exact HB4.out) Tryz.underlying105 rfl (by exact info_reg) ?_) | (at_builtin; refine wpList_append1 rfl (.tmp 26) (.tmp 28) 48 rfl info_regI Tryz.underlying48 rfl (by decide) (HO4.out.alloc _) (by exact rfl) w4.heap.size _ (by exact rfl) (by exact Blk.new' rfl) (by exact rfl) (by simp [Value.oneCell']) (by omega) (by simp [maxLen] <;> omega) (by first | omega | (simp; omega) | simp) ?_; intro v5 w5 hown5 hgr; have HO5 := Lib.hid hown5; have HX5 := Lib.hid (Ext.grown ((HXq.out.trans HX4.out).alloc _) hgr (fun q hq => own_lt HO4.out q hq)); clear hown5 hgr))
         exact ⟨⟨j + 1, by omega, by go_num, HX5.out, by rw [HT.out, List.length_append, List.flatMap_append]; exact HO5.out⟩, by simp [intOf]; omega⟩
     · have hjm : j = rn := by omega
       subst hjm
       have HT : Hid (uqR (P ++ d.doc.regs.take j) = uqR (allR (l.take (k + 1)))) := by show _ = _; rw [List.take_of_length_le (by omega), HDk.out]
       rw [HT.out] at HOq
       go_wp2_with fail
       exact ⟨⟨k + 1, by omega, by go_num, HXq.out, HOq.out⟩, by simp [intOf]; omega⟩
  · have hkn : k = n := by omega
    subst hkn
    have HT : Hid (uqR (allR (l.take k)) = uqR (allR l)) := by show _ = _; rw [List.take_of_length_le (by have := HLn.out; omega)]
    have hul : (uqR (allR l)).length ≤ 256 := by
     have h1 := allR_len (l := l) (fun x hx => HR16.out x hx)
     have h2 := uqR_len (allR l)
     have := HLn.out
     omega
    rw [HT.out] at HO
    obtain ⟨os, hos⟩ : ∃ os, os = uqR (allR l) := ⟨_, rfl⟩
    rw [← hos] at HO hul
    have HOs := Lib.hid hos
    clear hos
    rcases HO.out.2 with ⟨hv, h0⟩ | ⟨g, cap, cur, hv, -⟩
    · have HNil := Lib.hid (List.length_eq_zero_iff.1 h0)
      subst hv
      clear hul h0
      go_wp2_with fail
      refine (SortNoneRg _ _).mono ?_
      rintro e w2 ⟨rfl, rfl⟩
      go_wp2_with fail
      go_ret
      exact ⟨_, [], rfl, by rw [← HOs.out, HNil.out], List.Pairwise.nil, ⟨rfl, .inl ⟨rfl, rfl⟩⟩, HX.out⟩
    · subst hv
      have HSo := Lib.hid (SortRg_own HX.out (Nat.le_refl _) HO.out rfl (by omega))
      go_wp2_with fail
      refine HSo.out.mono ?_
      rintro e w2 ⟨rfl, hx2, m, hp, hs, ho⟩
      have HR := Lib.hid (And.intro hp (And.intro hs (And.intro ho hx2)))
      have hml : m.length = os.length := hp.length_eq
      clear hp hs ho hx2 HSo
      go_wp2_with fail
      go_ret
      exact ⟨_, m, rfl, by rw [← HOs.out]; exact HR.out.1, HR.out.2.1, by rw [hml]; exact HR.out.2.2.1, HR.out.2.2.2⟩
end
section
open Go.RowKit
theorem doc_ok {d : Doc} (h : d.err = 0) : d.headErr = 0 ∧ regsErr d.regs = 0 ∧ d.evs.length ≤ 400 ∧ evsLoop d.regs d.last [] d.evs = 0 ∧ d.coms.length ≤ 64 ∧ comsLoop d.last d.evs none d.coms = 0 := by
 unfold Doc.err at h
 split at h
 · rename_i h1; exact absurd h h1
 · rename_i h1
   split at h
   · rename_i h2; exact absurd h h2
   · rename_i h2
     split at h
     · simp at h
     · rename_i h3
       split at h
       · rename_i h4; exact absurd h h4
       · rename_i h4
         split at h
         · simp at h
         · rename_i h5
           exact ⟨by simpa using h1, by simpa using h2, by omega, by simpa using h4, by omega, h⟩
theorem evs_ok {regs : List Reg} {last : Int} : ∀ {l pre : List Ev}, evsLoop regs last pre l = 0 → ∀ (k : Nat) (x : Ev), l[k]? = some x →
 x.err regs = 0 ∧ x.id ≤ last ∧ ¬ (((pre ++ l.take k).getLast?.map fun p => lessB p x) = some false) ∧ findE (pre ++ l.take k) x.id = none
 | [], pre, _, k, x, hx => by simp at hx
 | y :: l, pre, h, 0, x, hx => by
  simp at hx; subst hx
  rw [evs_cons] at h
  split at h
  · rename_i h1; exact absurd h h1
  · rename_i h1
    have h1' : evErr regs last pre y = 0 := by simpa using h1
    unfold evErr at h1'
    split at h1'
    · rename_i h2; exact absurd h1' h2
    · rename_i h2
      split at h1'
      · simp at h1'
      · rename_i h3
        split at h1'
        · simp at h1'
        · rename_i h4
          split at h1'
          · simp at h1'
          · rename_i h5
            refine ⟨by simpa using h2, by omega, by simpa using h4, ?_⟩
            simp only [List.take_zero, List.append_nil]
            cases hf : findE pre y.id with
            | none => rfl
            | some j => rw [hf] at h5; simp at h5
 | y :: l, pre, h, k + 1, x, hx => by
  rw [evs_cons] at h
  split at h
  · rename_i h1; exact absurd h h1
  · have := evs_ok h k x (by simpa using hx)
    simpa using this
theorem ev_ok {e : Ev} {regs : List Reg} (h : e.err regs = 0) : 1 ≤ e.id ∧ e.id ≤ 1099511627776 ∧ spansB e.inn e.out = true := by
 unfold Ev.err at h
 split at h
 · simp at h
 · rename_i h1
   refine ⟨by omega, by omega, ?_⟩
   cases hs : spansB e.inn e.out
   · exact absurd (.inr (.inr hs)) h1
   · rfl
end
end Go.Proofs.YtablhmobekmflaaGreatDoor