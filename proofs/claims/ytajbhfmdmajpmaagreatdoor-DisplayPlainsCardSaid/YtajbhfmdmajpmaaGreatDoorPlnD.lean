/- The walk of display.Plain. -/
import Derived.Test.YtajbhfmdmajpmaaGreatDoorPlnP
import Derived.Test.YtajbhfmdmajpmaaGreatDoorBldR
import Derived.Test.YtajbhfmdmajpmaaGreatDoorPk16
import Derived.Test.YtajbhfmdmajpmaaGreatDoorPk02
namespace Go.Proofs.YtajbhfmdmajpmaaGreatDoor
set_option linter.unusedVariables false
set_option linter.unusedSimpArgs false
open Go.RowKit
theorem run_index_one {P : Program} {w : World} {t e : TypeId} {n : Nat} {cs : Array Value} {v : Value} (ht : P.underlying t = some (.array n e)) (hrow : ∀ w, (isAgg e).run P w = .ok false w) (hi : (P.info? e).map (·.size) = some 1) (k : Nat) (hk : k < n) (hv : cs[k]? = some v) :
    (Instr.index t (.agg cs) (.int .i64 k)).run P w = .ok v w := by
  obtain ⟨i, hi', hs⟩ := Option.map_eq_some_iff.1 hi
  have h2 : (sizeOf e).run P w = .ok 1 w := by simp [sizeOf, typeInfo, hi', hs]
  simp [Instr.index, run_underlying ht, asIntOf, part, hrow, h2, hk, hv]

def iv (r : Int) : List Value := [Value.int .i32 r]
theorem flat_iv (l : List Int) : l.flatMap iv = l.map (Value.int .i32) := by
  induction l with
  | nil => rfl
  | cons a l ih => rw [List.flatMap_cons, ih]; rfl
theorem zero_chs : Tryz.zeroCells92 = ((List.replicate 480 (0 : Int)).flatMap iv).toArray := by kernel_rfl
theorem size_chs : (Tryz.prog.info? 92).map (·.size) = some 480 := by kernel_rfl
theorem size_i32 : (Tryz.prog.info? 21).map (·.size) = some 1 := by kernel_rfl
theorem byteCells_app (a b : List UInt8) : Lib.byteCells (a ++ b) = Lib.byteCells a ++ Lib.byteCells b := by simp [Lib.byteCells]
def PlRel (w3 : World) (g T : Nat) (l : List Gl) (i : Value) (wq : World) : Prop :=
  ∃ k : Nat, k ≤ l.length ∧ i = .int .i64 k ∧ ExtB g w3 wq ∧ BlkL iv wq g T (chGrid (l.take k))
def PbRel (w4 : World) (B : Nat) (l : List Gl) (i : Value) (wr : World) : Prop :=
  ∃ k : Nat, k ≤ 480 ∧ i = .int .i64 k ∧ Ext w4 wr ∧ Lib.IsBuilder 96 5 B B (Lib.byteCells (txtTo l k)) wr
set_option maxRecDepth 100000 in
set_option maxHeartbeats 16000000 in
theorem Plain32_any (A : Option Addr) (n c : Nat) (l : List Gl) (w : World) (hl : GlsAt w A n l) (hn : n ≤ 1000000) :
    Calls Tryz.prog 31 #[.slice A n c] w fun en w' => en = .returned (.tuple #[.string (plainT l), .int .i64 (glsErr l)]) ∧ Ext w w' := by
  have HCk := Lib.hid (GCheck_any A n c l w hl hn)
  have HL := Lib.hid hl
  have HLn := Lib.hid hl.len
  have V1 : Hid (glsErr l ≠ 0 → plainT l = ⟨#[]⟩) := fun h => by unfold plainT; rw [if_neg h]
  have V2 : Hid (glsErr l = 0 → plainT l = txtOf l) := fun h => by unfold plainT; rw [if_pos h]
  clear hl
  go_enter Tryz.func31, Tryz.ntmps31
  go_wp2_with fail
  refine HCk.out.mono ?_
  rintro en' w1 ⟨rfl, hx1⟩
  have HX1 := Lib.hid hx1
  clear hx1 HCk
  by_cases he : glsErr l = 0
  case neg =>
    have hne : (glsErr l != 0) = true := by simpa using he
    have HN := Lib.hid (V1.out he)
    clear he
    go_wp2_with fail
    go_ret2
    exact ⟨by rw [HN.out]; rfl, HX1.out⟩
  obtain ⟨hgood, hasc, hl480⟩ := glsErr_inv he
  have HGood := Lib.hid hgood
  have HAsc := Lib.hid hasc
  have HV := Lib.hid (V2.out he)
  have HOk := Lib.hid he
  rw [he]
  clear he hgood hasc V1 V2
  have hn480 : n ≤ 480 := by rw [← HLn.out]; exact hl480
  go_upto_region 5 with fail
  have HG0 := Lib.hid (Blk.new w1 92 Tryz.zeroCells92)
  have HXz := Lib.hid ((Ext.refl w1).alloc (.cells Tryz.zeroCells92 92))
  generalize w1.alloc (.cells Tryz.zeroCells92 92) = w3 at *
  rw [zero_chs] at HG0
  have hz1 := HX1.out.size
  have hzw : ∀ ad, A = some ad → n ≠ 0 → ad.block < w1.heap.size := fun ad h h0 => by
    obtain ⟨b, off, hA, hc⟩ := (HL.out.ext HX1.out).2 (by omega)
    have hl0 : 0 < l.length := by rw [HLn.out]; omega
    have := World.block_lt_of_cell? w1 _ (hc 0 l[0] (List.getElem?_eq_getElem hl0) 0 _ rfl)
    rw [hA] at h
    cases h
    exact this
  have HZw := Lib.hid hzw
  clear hzw
  generalize w1.heap.size = gz at *
  have HX3 := Lib.hid (HX1.out.trans HXz.out)
  go_wp2_with fail
  go_loopw [18] (fun i wq => PlRel w3 gz 92 l i wq) (fun i _ => l.length - (intOf i).toNat)
  case atStart => exact ⟨0, Nat.zero_le _, rfl, ExtB.refl _, HG0.out⟩
  case round =>
    obtain ⟨j, hj, rfl, hxq, hgq⟩ := hrel
    have HXq := Lib.hid hxq
    have HGq := Lib.hid hgq
    clear hxq hgq
    rw [HLn.out] at hj
    by_cases hjn : j < n
    · have HLq : Hid (GlsAt wr A n l) := HXq.out.cells (HL.out.ext HX3.out) (fun ad h => by have := HZw.out ad h (by omega); omega)
      obtain ⟨gb, goff, y, rfl, hy, c0, c1, c2, c3, c4, c5⟩ := HLq.out.at6 hjn
      have hyok := (HGood.out y (List.mem_of_getElem? hy)).1
      obtain ⟨cy, hcc⟩ : ∃ cy : Nat, y.cell = cy := ⟨y.cell.toNat, by have := (Gl.ok_cell hyok).1; omega⟩
      have hcy : cy < 480 := by have := (Gl.ok_cell hyok).2; omega
      have HCy := Lib.hid (fun w' => Cell_any y w' ⟨hyok.1, hyok.2.1, hyok.2.2.1, hyok.2.2.2.1⟩)
      rw [hcc] at HCy
      have HSet : Hid (chGrid (l.take (j + 1)) = (chGrid (l.take j)).set cy y.ch) := by show _ = _; rw [chGrid_snoc hy, hcc]; rfl
      have HSl := Lib.hid (chGrid_len (l.take j))
      clear hy hyok hcc
      go_upto_region 8 with fail
      clear c0 c1 c2 c3 c4 c5
      have HBy := Lib.hid (Blk.new wr 58 #[.int .i64 y.row, .int .i64 y.col, .int .i32 y.ch, .int .u8 y.color, .bool y.italic, .bool y.under])
      have HX6 := Lib.hid ((Ext.refl wr).alloc (.cells #[.int .i64 y.row, .int .i64 y.col, .int .i32 y.ch, .int .u8 y.color, .bool y.italic, .bool y.under] 58))
      have HG6 : Hid (BlkL iv (wr.alloc (.cells #[.int .i64 y.row, .int .i64 y.col, .int .i32 y.ch, .int .u8 y.color, .bool y.italic, .bool y.under] 58)) gz 92 (chGrid (l.take j))) := Blk.ext HGq.out HX6.out
      have HXq6 := Lib.hid (HXq.out.ext HX6.out)
      generalize chGrid (l.take j) = ST at *
      generalize wr.alloc (.cells #[.int .i64 y.row, .int .i64 y.col, .int .i32 y.ch, .int .u8 y.color, .bool y.italic, .bool y.under] 58) = W6 at *
      generalize wr.heap.size = gy at *
      clear HX6 HXq HGq HLq
      refine wp_region_links [some 22, some 23, some 24, some 25, some 26, none] [[], [0], [], [2], [1, 0, 1, 2, 3], [4, 3, 1, 0, 1, 2, 3]] [1, 5] [.agg #[.int .i64 y.row, .int .i64 y.col, .int .i32 y.ch, .int .u8 y.color, .bool y.italic, .bool y.under], undef, .pointer (some ⟨gy, 2, none⟩), .int .i32 y.ch, .pointer (some ⟨gz, cy, none⟩), undef] (StG W6 gz 92 (.int .i64 (cy : Int)) ((ST.set cy y.ch).flatMap iv).toArray) (by kernel_rfl) (by kernel_rfl) (by kernel_rfl) (by kernel_rfl) (by kernel_rfl) (by kernel_rfl) (by kernel_rfl) (by decide) ?_ ?_ ?_ ?_
      · exact (Ext.refl W6).drew
      · intro i o ho hc a w' us K' hJ hF hlim hk
        match i, ho with
        | 0, ho =>
          simp only [List.getElem?_toArray, List.getElem?_cons_zero, List.getElem?_cons_succ, Option.some.injEq] at ho
          subst ho
          have e7 := hF.old 7 (.pointer (some ⟨gy, 0, none⟩)) rfl rfl
          exact wp_loadB 58 (.tmp 7) rfl gy 58 _ _ e7 (HBy.out.ext (hJ.ext (by have := hlim 0 1 rfl rfl; omega))) Tryz.underlying58 rfl (by exact size_gl) hk
        | 1, ho => simp at hc
        | 2, ho =>
          simp only [List.getElem?_toArray, List.getElem?_cons_zero, List.getElem?_cons_succ, Option.some.injEq] at ho
          subst ho
          have e7 := hF.old 7 (.pointer (some ⟨gy, 0, none⟩)) rfl rfl
          simp only [Act.eval] at e7
          clear hF hlim hJ
          go_simp
          exact hk
        | 3, ho =>
          simp only [List.getElem?_toArray, List.getElem?_cons_zero, List.getElem?_cons_succ, Option.some.injEq] at ho
          subst ho
          have e24 := hF.pure 2 24 (.pointer (some ⟨gy, 2, none⟩)) rfl rfl rfl rfl
          have hcl := (HBy.out.ext (hJ.ext (hlim 1 5 rfl rfl))).cell 2
          simp only [Act.eval] at e24
          clear hF hlim hJ
          go_simp
          exact hk
        | 4, ho =>
          simp only [List.getElem?_toArray, List.getElem?_cons_zero, List.getElem?_cons_succ, Option.some.injEq] at ho
          subst ho
          have e5 := hF.old 5 (.pointer (some ⟨gz, 0, none⟩)) rfl rfl
          obtain ⟨v23, hv23⟩ := getElem_ltq (hF.did 0 1 rfl rfl)
          have e23 := hF.link 0 1 23 _ rfl rfl rfl hv23
          have hu := hJ.one (hlim 1 5 rfl rfl) hv23
          subst hu
          have hci : (cy : Int) < 480 := by omega
          simp only [Act.eval] at e23 e5
          clear hF hlim hJ
          go_simp
          exact hk
        | 5, ho => simp at hc
        | i + 6, ho => simp at ho
      · intro p c' o hp ho a w' us K' hl hJ hF hk
        match p, hp with
        | 0, hp =>
          obtain rfl : 1 = c' := by simpa using hp
          simp only [List.getElem?_toArray, List.getElem?_cons_zero, List.getElem?_cons_succ, Option.some.injEq] at ho
          subst ho
          obtain rfl : us = [] := List.eq_nil_of_length_eq_zero hl
          have e22 := hF.pure 0 22 (.agg #[.int .i64 y.row, .int .i64 y.col, .int .i32 y.ch, .int .u8 y.color, .bool y.italic, .bool y.under]) rfl rfl rfl rfl
          exact wp_call1s rfl e22 Tryz.call41 (HCy.out _) (fun w5 hx5 => hk _ w5 ⟨rfl, Ext.trans hJ hx5⟩)
        | 1, hp =>
          obtain rfl : 5 = c' := by simpa using hp
          simp only [List.getElem?_toArray, List.getElem?_cons_zero, List.getElem?_cons_succ, Option.some.injEq] at ho
          subst ho
          obtain ⟨u0, rfl⟩ := list_1 hl
          have e26 := hF.pure 4 26 (.pointer (some ⟨gz, cy, none⟩)) rfl rfl rfl rfl
          have e25 := hF.pure 3 25 (.int .i32 y.ch) rfl rfl rfl rfl
          obtain ⟨rfl, hx⟩ := hJ
          have HG8 : Hid (BlkL iv w' gz 92 ST) := Blk.ext HG6.out hx
          obtain ⟨ob, hob⟩ : ∃ ob, ST[cy]? = some ob := ⟨_, List.getElem?_eq_getElem (by rw [HSl.out]; exact hcy)⟩
          have hcell : w'.cell? ⟨gz, cy, none⟩ = some (.int .i32 ob) := by have := HG8.out.cells (f := iv) (size := 1) (fun _ => rfl) hob (j := 0) rfl; simpa using this
          have hfz : w'.frozen? ⟨gz, cy, none⟩ = false := Blk.frozen HG8.out _
          have hput : w'.setCell ⟨gz, cy, none⟩ (.int .i32 y.ch) = putB w' gz 92 ((ST.set cy y.ch).flatMap iv).toArray := by
            rw [setCell_put HG8.out]
            congr 1
            rw [flat_iv, flat_iv, List.map_set]
            simp
          have HK := Lib.hid (hk undef _ ⟨w', hx, rfl⟩)
          rw [← hput] at HK
          simp only [Act.eval] at e25 e26
          clear hk hF hob hput HG8 hx
          go_simp
          exact HK.out
        | p + 2, hp => simp at hp
      intro us wE hl hJ
      obtain ⟨u0, u1, rfl⟩ := list_2 hl
      first | (rename_i hK; refine hK _ _ ?_; clear hK) | (rename_i hK hK_1; refine hK _ _ ?_; clear hK) | (rename_i hK hK_1 hK_2; refine hK _ _ ?_; clear hK) | (rename_i hK hK_1 hK_2 hK_3; refine hK _ _ ?_; clear hK)
      generalize hL : frameL _ _ _ _ = L
      obtain rfl : L = [(22, .agg #[.int .i64 y.row, .int .i64 y.col, .int .i32 y.ch, .int .u8 y.color, .bool y.italic, .bool y.under]), (23, u0), (24, .pointer (some ⟨gy, 2, none⟩)), (25, .int .i32 y.ch), (26, .pointer (some ⟨gz, cy, none⟩))] := hL.symm.trans (by kernel_rfl)
      clear hL hl
      simp only [Act.put, List.foldl_cons, List.foldl_nil, List.setIfInBounds_toArray, List.set_cons_zero, List.set_cons_succ]
      obtain ⟨w5, hx5, rfl⟩ := hJ
      have HF1 := Lib.hid ((HXq6.out.ext hx5).put 92 ((ST.set cy y.ch).flatMap iv).toArray)
      have HF2 := Lib.hid (Blk.put (Blk.ext HG6.out hx5) ((ST.set cy y.ch).flatMap iv).toArray)
      obtain ⟨W8, hW8⟩ : ∃ W8, W8 = putB w5 gz 92 ((ST.set cy y.ch).flatMap iv).toArray := ⟨_, rfl⟩
      rw [← hW8] at HF1 HF2 ⊢
      clear hW8 hx5 HBy HG6
      go_wp2_with fail
      exact ⟨⟨j + 1, by rw [HLn.out]; omega, by go_num, HF1.out, by rw [HSet.out]; exact HF2.out⟩, by have := HLn.out; simp [intOf]; omega⟩
    · have HGa : Hid (BlkL iv wr gz 92 (chGrid l)) := by
        have h1 := HGq.out
        rw [List.take_of_length_le (by rw [HLn.out]; omega)] at h1
        exact h1
      have HX4 := Lib.hid (HXq.out.toExt HX3.out hz1)
      have HAt := Lib.hid (fun i (hi : i < 480) => chGrid_at HAsc.out (fun g hg => (HGood.out g hg).1) (i := i) hi)
      have HSm := Lib.hid (fun i => charAt_small HGood.out i)
      have HGl := Lib.hid (chGrid_len l)
      clear HGq HXq
      generalize chGrid l = G at *
      obtain ⟨C, hC⟩ : ∃ C, C = (G.flatMap iv).toArray := ⟨_, rfl⟩
      have HIx : Hid (∀ (i : Nat) (r : Int), G[i]? = some r → ∀ w, (Instr.index 92 (.agg C) (.int .i64 i)).run Tryz.prog w = .ok (.int .i32 r) w) := fun i r hr w => by
        have hi : i < 480 := by have := (List.getElem?_eq_some_iff.1 hr).1; rw [HGl.out] at this; exact this
        refine run_index_one Tryz.underlying92 Tryz.isAgg21 size_i32 i hi ?_
        rw [hC, flat_iv]
        simp [hr]
      have hsz : (Tryz.prog.info? 92).map (·.size) = some C.size := by rw [hC, size_chs, flat_iv]; simp [HGl.out]
      have HBc0 : Hid (Blk wr gz 92 C) := by show Blk _ _ _ _; rw [hC]; exact HGa.out
      clear hC HGa
      go_upto_region 11 with fail
      have HXb := Lib.hid (HX4.out.alloc (.cells #[.pointer none, .slice none 0 0] 96))
      have HBc := Lib.hid (HBc0.out.alloc (.cells #[.pointer none, .slice none 0 0] 96))
      have HBu : Hid (Lib.IsBuilder 96 5 wr.heap.size wr.heap.size (Lib.byteCells (txtTo l 0)) (wr.alloc (.cells #[.pointer none, .slice none 0 0] 96))) := .inl ⟨Nat.le_refl _, .slice none 0 0, Blk.new wr _ _, ⟨rfl, .inl ⟨rfl, rfl⟩⟩, by simp [Value.ownBlock]⟩
      have HXbb := Lib.hid ((Ext.refl wr).alloc (.cells #[.pointer none, .slice none 0 0] 96))
      have hzb : wr.heap.size ≤ (wr.alloc (.cells #[.pointer none, .slice none 0 0] 96)).heap.size := by simp
      obtain ⟨w4, hw4⟩ : ∃ w4, w4 = wr := ⟨_, rfl⟩
      subst hw4
      clear HBc0
      go_wp2_with (refine wpList_loadB rfl 92 (.tmp 5) rfl gz 92 _ _ (by exact rfl) (by exact HBc.out) Tryz.underlying92 rfl (by exact hsz) ?_)
      clear hsz
      have hz4 := HX4.out.size
      go_loopw [29] (fun i wq => PbRel w4 w4.heap.size l i wq) (fun i _ => 480 - (intOf i).toNat)
      case atStart => exact ⟨0, by omega, rfl, HXbb.out, HBu.out⟩
      case round =>
        obtain ⟨k, hk, rfl, hx, hb⟩ := hrel
        have HX := Lib.hid hx
        have HB := Lib.hid hb
        have htl := txt_len l k
        have hxs := hx.size
        clear hx hb
        by_cases hlt : k < 480
        · obtain ⟨r, hr, hrc⟩ := HAt.out k hlt
          have hix := HIx.out k r hr
          have hsm := HSm.out k
          have HSu := Lib.hid (txt_succ l k)
          have hbl : (Lib.byteCells (txtTo l k)).length ≤ 2400 := by simp [Lib.byteCells]; omega
          clear hr
          by_cases hr0 : r = 0
          · rw [if_pos hr0] at hrc
            subst hr0
            rw [← hrc] at hsm HSu
            clear hrc
            have HWr := Lib.hid (WriteRune_any w4.heap.size w4.heap.size (Lib.byteCells (txtTo l k)) 32 (by omega) (by omega) wr HB.out (by omega) hxs)
            go_wp2_with fail
            refine HWr.out.mono ?_
            rintro en8 w8 ⟨⟨v8, rfl⟩, hb8, hbl8⟩
            have HX8 : Hid (Ext w4 w8) := HX.out.below hbl8 (Nat.le_refl _)
            have HB8 : Hid (Lib.IsBuilder 96 5 w4.heap.size w4.heap.size (Lib.byteCells (txtTo l k ++ Lib.encodeRune 32)) w8) := .inr (by rw [byteCells_app, Lib.byteCells_encodeRune]; exact hb8)
            have hxs8 := HX8.out.size
            clear hb8 hbl8 HWr hix
            by_cases h31 : k % 32 = 31
            · rw [if_pos h31] at HSu
              have hm1 : (k : Int).tmod 32 = 31 := by rw [Int.tmod_eq_emod_of_nonneg (by omega)]; omega
              have hm2 : (k : Int) % 32 = 31 := by omega
              have hel := (enc_len 32).2
              have HWb := Lib.hid (WriteByte_any w4.heap.size w4.heap.size (Lib.byteCells (txtTo l k ++ Lib.encodeRune 32)) 10 w8 HB8.out (by simp only [Lib.byteCells, List.length_map, List.length_append] at hbl ⊢; omega) hxs8)
              clear h31
              go_wp2_with fail
              refine HWb.out.mono ?_
              rintro en9 w9 ⟨⟨v9, rfl⟩, hb9, hbl9⟩
              have HX9 : Hid (Ext w4 w9) := HX8.out.below hbl9 (Nat.le_refl _)
              have HB9 : Hid (Lib.IsBuilder 96 5 w4.heap.size w4.heap.size (Lib.byteCells (txtTo l (k + 1))) w9) := .inr (by rw [HSu.out, ← List.append_assoc, byteCells_app]; exact hb9)
              clear hb9 hbl9 HWb
              go_wp2_with fail
              exact ⟨⟨k + 1, by omega, by go_num, HX9.out, HB9.out⟩, by simp [intOf]; omega⟩
            · rw [if_neg h31, List.append_nil] at HSu
              have hm1 : ((k : Int).tmod 32 == 31) = false := by rw [Int.tmod_eq_emod_of_nonneg (by omega)]; simp; omega
              have hm2 : ((k : Int) % 32 == 31) = false := by simp; omega
              clear h31
              go_wp2_with fail
              exact ⟨⟨k + 1, by omega, by go_num, HX8.out, by rw [HSu.out]; exact HB8.out⟩, by simp [intOf]; omega⟩
          · rw [if_neg hr0] at hrc
            have hrb : (r == 0) = false := by simpa using hr0
            rw [← hrc] at hsm HSu
            clear hrc
            have HWr := Lib.hid (WriteRune_any w4.heap.size w4.heap.size (Lib.byteCells (txtTo l k)) r (by omega) (by omega) wr HB.out (by omega) hxs)
            clear hr0
            go_wp2_with fail
            refine HWr.out.mono ?_
            rintro en8 w8 ⟨⟨v8, rfl⟩, hb8, hbl8⟩
            have HX8 : Hid (Ext w4 w8) := HX.out.below hbl8 (Nat.le_refl _)
            have HB8 : Hid (Lib.IsBuilder 96 5 w4.heap.size w4.heap.size (Lib.byteCells (txtTo l k ++ Lib.encodeRune r)) w8) := .inr (by rw [byteCells_app, Lib.byteCells_encodeRune]; exact hb8)
            have hxs8 := HX8.out.size
            clear hb8 hbl8 HWr hix
            by_cases h31 : k % 32 = 31
            · rw [if_pos h31] at HSu
              have hm1 : (k : Int).tmod 32 = 31 := by rw [Int.tmod_eq_emod_of_nonneg (by omega)]; omega
              have hm2 : (k : Int) % 32 = 31 := by omega
              have hel := (enc_len r).2
              have HWb := Lib.hid (WriteByte_any w4.heap.size w4.heap.size (Lib.byteCells (txtTo l k ++ Lib.encodeRune r)) 10 w8 HB8.out (by simp only [Lib.byteCells, List.length_map, List.length_append] at hbl ⊢; omega) hxs8)
              clear h31
              go_wp2_with fail
              refine HWb.out.mono ?_
              rintro en9 w9 ⟨⟨v9, rfl⟩, hb9, hbl9⟩
              have HX9 : Hid (Ext w4 w9) := HX8.out.below hbl9 (Nat.le_refl _)
              have HB9 : Hid (Lib.IsBuilder 96 5 w4.heap.size w4.heap.size (Lib.byteCells (txtTo l (k + 1))) w9) := .inr (by rw [HSu.out, ← List.append_assoc, byteCells_app]; exact hb9)
              clear hb9 hbl9 HWb
              go_wp2_with fail
              exact ⟨⟨k + 1, by omega, by go_num, HX9.out, HB9.out⟩, by simp [intOf]; omega⟩
            · rw [if_neg h31, List.append_nil] at HSu
              have hm1 : ((k : Int).tmod 32 == 31) = false := by rw [Int.tmod_eq_emod_of_nonneg (by omega)]; simp; omega
              have hm2 : ((k : Int) % 32 == 31) = false := by simp; omega
              clear h31
              go_wp2_with fail
              exact ⟨⟨k + 1, by omega, by go_num, HX8.out, by rw [HSu.out]; exact HB8.out⟩, by simp [intOf]; omega⟩
        · have hke : k = 480 := by omega
          subst hke
          have HSt := Lib.hid (Tryz.Builder_String_any w4.heap.size w4.heap.size (txtTo l 480) wr HB.out hxs)
          go_wp2_with fail
          refine HSt.out.mono ?_
          rintro en8 w8 ⟨rfl, hb8⟩
          have HX8 : Hid (Ext w w8) := (HX4.out.trans HX.out).below hb8 hz4
          clear hb8 HSt
          go_wp2_with fail
          go_ret2
          exact ⟨by rw [HV.out, HOk.out]; rfl, HX8.out⟩
end Go.Proofs.YtajbhfmdmajpmaaGreatDoor
