/- Laid together: The walk of the law DisplayShows. A chain of operations in a region that draws its order, with guards that all hold. The walks of the reference's meet and Overlaps. The walk of the law DisplayOverlaps. -/
import Derived.Test.YtajbhfmdmajpmaaGreatDoorPk22
import Derived.Test.YtajbhfmdmajpmaaGreatDoorPk24
import Derived.Test.YtajbhfmdmajpmaaGreatDoorPk05
import Derived.Test.YtajbhfmdmajpmaaGreatDoorPk06
import Derived.Test.YtajbhfmdmajpmaaGreatDoorPk21
import Derived.Test.YtajbhfmdmajpmaaGreatDoorPk17
import Derived.Test.YtajbhfmdmajpmaaGreatDoorPk23
import Derived.Test.YtajbhfmdmajpmaaGreatDoorPk08

/-! LawShows32 -/
namespace Go.Proofs.YtajbhfmdmajpmaaGreatDoor
set_option linter.unusedVariables false
set_option linter.unusedSimpArgs false
open Go.RowKit
set_option maxRecDepth 100000 in
set_option maxHeartbeats 8000000 in
theorem DisplayShows_any (d : Doc) (h : DocH) (w : World) (hE : Env w) (hat : DocAt w d h) (hi : DocIn d h) :
    Calls Tryz.prog 4 #[.agg (d.cells h)] w fun en w' => en = .returned (.bool true) ∧ Ext w w' := by
  have HX0 : Hid (Ext w (w.alloc (.cells (d.cells h) 27))) := (Ext.refl w).alloc _
  have HB0 : Hid (Blk (w.alloc (.cells (d.cells h) 27)) w.heap.size 27 (d.cells h)) := Blk.new w _ _
  have HAw := Lib.hid (fun w' (hx : Ext w w') => awake32_any w' (hE.ext hx))
  have HSm := Lib.hid (fun w' => Small_any d h w')
  have HHi := Lib.hid hi
  have HEn := Lib.hid hE
  have HAt := Lib.hid hat
  have HSh := Lib.hid (fun w' (hx : Ext w w') => Shows_any d h w' (hE.ext hx) (hat.ext hx) hi.fit hi.rn hi.en hi.cn)
  have HSr := Lib.hid (fun w' (hx : Ext w w') => R32Shows_any d h w' (hE.ext hx) (hat.ext hx) hi.fit hi.rn hi.en hi.cn)
  have HLe := Lib.hid hat.evs.len
  clear hE hat hi
  obtain ⟨ra, nr, rc, ea, en, ec, ca, nc, cc⟩ := h
  unfold Doc.cells at *
  dsimp only at *
  go_enter Tryz.func4, Tryz.ntmps4
  go_wp2_with fail
  refine (HAw.out _ HX0.out).mono ?_
  rintro en1 w1 ⟨rfl, hx1⟩
  have HX1 := Lib.hid (HX0.out.trans hx1)
  have HB1 := Lib.hid (HB0.out.ext hx1)
  clear hx1 HX0 HB0 HAw
  go_wp2_with (refine wpList_loadB rfl 27 (.tmp 1) rfl w.heap.size 27 _ _ (by exact rfl) (by exact HB1.out) Tryz.underlying27 rfl (by exact size_docI) ?_)
  refine (HSm.out _).mono ?_
  rintro en2 w2 ⟨rfl, hx2⟩
  have HX2 := Lib.hid (HX1.out.trans hx2)
  have HB2 := Lib.hid (HB1.out.ext hx2)
  clear hx2 HX1 HB1 HSm
  by_cases hsm : en ≤ 40 ∧ nr ≤ 40 ∧ nc ≤ 100
  case neg =>
    rw [decide_eq_false hsm]
    clear hsm
    go_wp2_with fail
    go_ret
    exact ⟨rfl, HX2.out⟩
  rw [decide_eq_true hsm]
  have HSml := Lib.hid hsm
  clear hsm
  have HLw : Hid (d.shw.length ≤ 2000) := shw_len d (by have := HSml.out; have := HLe.out; omega)
  have HL4 := Lib.hid (shw_480 d)
  unfold ShowsPost at HSh HSr
  go_wp2_with (refine wpList_loadB rfl 27 (.tmp 1) rfl w.heap.size 27 _ _ (by exact rfl) (by exact HB2.out) Tryz.underlying27 rfl (by exact size_docI) ?_)
  refine (HSh.out _ HX2.out).mono ?_
  rintro en3 w3 ⟨A1, c1, ps, rfl, hps, hS, hc1, hsc, hx3⟩
  have HPs := Lib.hid hps
  have HX3 := Lib.hid (HX2.out.trans hx3)
  have HB3 := Lib.hid (HB2.out.ext hx3)
  have HS := Lib.hid hS
  have HSc := Lib.hid hsc
  clear hps hS hsc hx3 HX2 HB2 HSh
  go_wp2_with (refine wpList_loadB rfl 27 (.tmp 1) rfl w.heap.size 27 _ _ (by exact rfl) (by exact HB3.out) Tryz.underlying27 rfl (by exact size_docI) ?_)
  refine (HSr.out _ HX3.out).mono ?_
  rintro en4 w4 ⟨A2, c2, qs, rfl, hqs, hS2, hc2, hsc2, hx4⟩
  have HX4 := Lib.hid (HX3.out.trans hx4)
  have HSame := Lib.hid (SameShows_any A1 c1 ps A2 c2 qs d.shw w4 HPs.out hqs (Sl.ext (Cells.stays _) HS.out hx4) hS2 (fun p hp => (HSc.out p hp).ext hx4) hsc2 HL4.out (by have := HLw.out; omega))
  clear hqs hS2 hsc2 hx4 HX3 HB3 HS HSc HPs HSr
  go_wp2_with fail
  refine HSame.out.mono ?_
  rintro en5 w5 ⟨rfl, hx5⟩
  have HX5 := Lib.hid (HX4.out.trans hx5)
  clear hx5 HSame
  go_wp2_with fail
  go_ret
  exact ⟨rfl, HX5.out⟩
end Go.Proofs.YtajbhfmdmajpmaaGreatDoor

/-! ChainG -/
namespace Go.Proofs.YtajbhfmdmajpmaaGreatDoor
set_option linter.unusedVariables false
set_option linter.unusedSimpArgs false
open Go.RowKit
/-- an operation's guard is one of the known ones, on a slot that it waits for and that the chain does not write -/
def guardB (ops : Array Oper) (chain : List Nat) (gl : List (Nat × Bool)) (o : Oper) : Bool :=
  match o.guard with
  | none => true
  | some g => gl.contains g && edgeB o g.1 && (dstO ops g.1).isSome && !chain.contains g.1
theorem want_g {ops : Array Oper} {chain : List Nat} {gl : List (Nat × Bool)} {pv us : List Value} {a0 a : Act} {o : Oper} {A B : Prop} (hg : guardB ops chain gl o = true) (hgl : ∀ g ∈ gl, pv[g.1]? = some (.bool g.2)) (hF : Finds ops chain pv us a0 a o) (h : A) : if Region.wanted o (yielded ops a.tmps) = true then A else B := by
  unfold guardB at hg
  cases hgd : o.guard with
  | none => exact want_none hgd h
  | some g =>
    rw [hgd] at hg
    simp only [Bool.and_eq_true, Bool.not_eq_true'] at hg
    obtain ⟨⟨⟨h1, h2⟩, h3⟩, h4⟩ := hg
    obtain ⟨s, hs⟩ := Option.isSome_iff_exists.1 h3
    have hv := hF.pure g.1 s _ h2 hs h4 (hgl g (by simpa using h1))
    exact want_yes (k := g.1) (b := g.2) hgd hs hv (by simp) h
theorem wp_region_linksG {P : Program} {ops : Array Oper} {Q : Exit → Act → World → Prop} {id : Nat} {a0 : Act} {W : World} (gl : List (Nat × Bool)) (slots : List (Option Nat)) (deps : List (List Nat)) (chain : List Nat) (pv : List Value) (J : List Value → World → Prop) (hgl : ∀ g ∈ gl, pv[g.1]? = some (.bool g.2)) (hm : P.follows .mixedOrders = true) (hdst : dstOK2 ops a0.tmps.size = true) (hord : ordB 0 ops.toList = true)
    (hs : ops.toList.map (·.dst) = slots) (hd : ops.toList.map depsOf = deps) (hg : ops.toList.all (guardB ops chain gl) = true) (hch : chainB ops chain = true) (hnd : chain.Nodup) (h0 : J [] W.drew)
    (hpure : ∀ (i : Nat) (o : Oper), ops[i]? = some o → chain.contains i = false → ∀ (a : Act) (w : World) (us : List Value) (K : Act → World → Prop), J us w → Sees slots deps chain pv us a0 a i → (∀ p c, chain[p]? = some c → (deps.getD c []).contains i = true → us.length ≤ p) → K (a.put o.dst (pv.getD i undef)) w → Oper.wp P o a w K Q)
    (hlink : ∀ (p c : Nat) (o : Oper), chain[p]? = some c → ops[c]? = some o → ∀ (a : Act) (w : World) (us : List Value) (K : Act → World → Prop), us.length = p → J us w → Sees slots deps chain pv us a0 a c → (∀ v w', J (us ++ [v]) w' → K (a.put o.dst v) w') → Oper.wp P o a w K Q)
    (hQ : ∀ us w, us.length = chain.length → J us w → Q .normal { a0 with tmps := (frameL ops chain pv us).foldl (fun t p => t.setIfInBounds p.1 p.2) a0.tmps } w) :
    (Code.region id ops true).wp P Q a0 W := by
  have hgd : ∀ (i : Nat) (o : Oper), ops[i]? = some o → guardB ops chain gl o = true := fun i o ho => List.all_eq_true.1 hg o (by simpa using Array.mem_of_getElem? ho)
  refine wp_region_chain chain pv J hm hdst hord hch hnd h0 (fun i o ho hc a w us K hJ hF hl hk => ?_) (fun p c o hp ho a w us K hl hJ hF hk => ?_) hQ
  · refine want_g (hgd i o ho) hgl hF (hpure i o ho hc a w us K hJ (hF.sees hs hd ho) (fun p c hp he => ?_) hk)
    have hcl := chainB_lt hch hp
    have hoc : ops[c]? = some ops[c] := by simp [hcl]
    refine hl p c _ hp hoc (edge_deps ?_)
    have : deps.getD c [] = depsOf ops[c] := by
      rw [← hd, List.getD_eq_getElem?_getD, List.getElem?_map]
      have : ops.toList[c]? = some ops[c] := by simp [hcl]
      rw [this]; rfl
    rw [← this]
    exact he
  · exact want_g (hgd c o ho) hgl hF (hlink p c o hp ho a w us K hl hJ (hF.sees hs hd ho) hk)
end Go.Proofs.YtajbhfmdmajpmaaGreatDoor

/-! OvR -/
namespace Go.Proofs.YtajbhfmdmajpmaaGreatDoor
set_option linter.unusedVariables false
set_option linter.unusedSimpArgs false
open Go.RowKit
def hitB (x y : Gl) : Bool := decide (x.row = y.row ∧ x.col = y.col)
theorem any_snoc {l : List Gl} {f : Gl → Bool} {k : Nat} {y : Gl} (h : l[k]? = some y) : (l.take (k + 1)).any f = ((l.take k).any f || f y) := by
  rw [take_snoc' l k y h, List.any_append]
  simp
theorem any_all {l : List Gl} {f : Gl → Bool} {k : Nat} {y : Gl} (h : l[k]? = some y) (hf : f y = true) : l.any f = true := List.any_eq_true.2 ⟨y, List.mem_of_getElem? h, hf⟩
set_option maxRecDepth 100000 in
set_option maxHeartbeats 4000000 in
theorem R32meet_any (A : Option Addr) (n c : Nat) (l1 : List Gl) (B : Option Addr) (m c2 : Nat) (l2 : List Gl) (w : World) (h1 : GlsAt w A n l1) (h2 : GlsAt w B m l2) (hn : n ≤ 1000000) (hm : m ≤ 1000000) :
    Calls Tryz.prog 45 #[.slice A n c, .slice B m c2] w fun e w' => e = .returned (.bool (meetB l1 l2)) ∧ Ext w w' := by
  have H1 := Lib.hid h1
  have H2 := Lib.hid h2
  have L1 := Lib.hid h1.len
  have L2 := Lib.hid h2.len
  clear h1 h2
  go_enter Tryz.func45, Tryz.ntmps45
  go_wp2_with fail
  go_loopw [11] (fun i wr => ∃ k : Nat, k ≤ n ∧ i = .int .i64 k ∧ Ext w wr ∧ (l1.take k).any (fun x => l2.any (hitB x)) = false) (fun i _ => n - (intOf i).toNat)
  case atStart => exact ⟨0, Nat.zero_le _, rfl, Ext.refl _, rfl⟩
  case round =>
    obtain ⟨k, hk, rfl, hx, hf⟩ := hrel
    have HX := Lib.hid hx
    have HF := Lib.hid hf
    clear hx hf
    by_cases hlt : k < n
    · obtain ⟨b, off, x, rfl, hxx, c0, c1, c2, c3, c4, c5⟩ := (H1.out.ext HX.out).at6 hlt
      have HT := Lib.hid (any_snoc (f := fun x => l2.any (hitB x)) hxx)
      have HXx := Lib.hid hxx
      clear hxx
      go_upto_region 4 with fail
      clear c0 c1 c2 c3 c4 c5
      have HBx := Lib.hid (Blk.new wr 58 #[.int .i64 x.row, .int .i64 x.col, .int .i32 x.ch, .int .u8 x.color, .bool x.italic, .bool x.under])
      have HX1 := Lib.hid (HX.out.alloc (.cells #[.int .i64 x.row, .int .i64 x.col, .int .i32 x.ch, .int .u8 x.color, .bool x.italic, .bool x.under] 58))
      generalize wr.alloc (.cells #[.int .i64 x.row, .int .i64 x.col, .int .i32 x.ch, .int .u8 x.color, .bool x.italic, .bool x.under] 58) = W1 at *
      generalize wr.heap.size = gx at *
      go_wp2_with fail
      go_loopw [17] (fun i wq => ∃ j : Nat, j ≤ m ∧ i = .int .i64 j ∧ Ext W1 wq ∧ (l2.take j).any (hitB x) = false) (fun i _ => m - (intOf i).toNat)
      case atStart => exact ⟨0, Nat.zero_le _, rfl, Ext.refl _, rfl⟩
      case round =>
        obtain ⟨j, hj, rfl, hxq, hfq⟩ := hrel
        have HXq := Lib.hid hxq
        have HFq := Lib.hid hfq
        clear hxq hfq
        by_cases hjm : j < m
        · obtain ⟨b2, off2, y, rfl, hyy, c0, c1, c2, c3, c4, c5⟩ := (H2.out.ext (HX1.out.trans HXq.out)).at6 hjm
          have HT2 := Lib.hid (any_snoc (f := hitB x) hyy)
          have HYy := Lib.hid hyy
          clear hyy
          go_upto_region 7 with fail
          clear c0 c1 c2 c3 c4 c5
          have HBy := Lib.hid (Blk.new wr 58 #[.int .i64 y.row, .int .i64 y.col, .int .i32 y.ch, .int .u8 y.color, .bool y.italic, .bool y.under])
          have HX2 := Lib.hid (HXq.out.alloc (.cells #[.int .i64 y.row, .int .i64 y.col, .int .i32 y.ch, .int .u8 y.color, .bool y.italic, .bool y.under] 58))
          generalize wr.alloc (.cells #[.int .i64 y.row, .int .i64 y.col, .int .i32 y.ch, .int .u8 y.color, .bool y.italic, .bool y.under] 58) = W2 at *
          generalize wr.heap.size = gy at *
          have hx0 : W2.cell? ⟨gx, 0, none⟩ = some (.int .i64 x.row) := (HBx.out.ext HX2.out).cell 0
          have hx1 : W2.cell? ⟨gx, 1, none⟩ = some (.int .i64 x.col) := (HBx.out.ext HX2.out).cell 1
          have hy0 : W2.cell? ⟨gy, 0, none⟩ = some (.int .i64 y.row) := HBy.out.cell 0
          have hy1 : W2.cell? ⟨gy, 1, none⟩ = some (.int .i64 y.col) := HBy.out.cell 1
          by_cases hr : x.row = y.row
          · by_cases hc : x.col = y.col
            · have hrb : (x.row == y.row) = true := by simpa using hr
              have hcb : (x.col == y.col) = true := by simpa using hc
              have HH : Hid (hitB x y = true) := decide_eq_true ⟨hr, hc⟩
              have HR : Hid (meetB l1 l2 = true) := any_all (f := fun x => l2.any (hitB x)) HXx.out (any_all (f := hitB x) HYy.out HH.out)
              clear hr hc
              go_wp2_with fail
              go_ret
              exact ⟨ret_bool HR.out.symm, HX1.out.trans HX2.out⟩
            · have hrb : (x.row == y.row) = true := by simpa using hr
              have hcb : (x.col == y.col) = false := by simpa using hc
              have HH : Hid (hitB x y = false) := decide_eq_false (fun h => hc h.2)
              clear hr hc
              go_wp2_with fail
              exact ⟨⟨j + 1, by omega, by go_num, HX2.out, by rw [HT2.out, HFq.out, HH.out]; rfl⟩, by simp [intOf]; omega⟩
          · have hrb : (x.row == y.row) = false := by simpa using hr
            have HH : Hid (hitB x y = false) := decide_eq_false (fun h => hr h.1)
            clear hr
            go_wp2_with fail
            exact ⟨⟨j + 1, by omega, by go_num, HX2.out, by rw [HT2.out, HFq.out, HH.out]; rfl⟩, by simp [intOf]; omega⟩
        · have HN : Hid (l2.any (hitB x) = false) := by
            have h := HFq.out
            rw [List.take_of_length_le (by rw [L2.out]; omega)] at h
            exact h
          go_wp2_with fail
          exact ⟨⟨k + 1, by omega, by go_num, HX1.out.trans HXq.out, by rw [HT.out, HF.out, HN.out]; rfl⟩, by simp [intOf]; omega⟩
    · have HR : Hid (meetB l1 l2 = false) := by
        have h := HF.out
        rw [List.take_of_length_le (by rw [L1.out]; omega)] at h
        exact h
      go_wp2_with fail
      go_ret
      exact ⟨ret_bool HR.out.symm, HX.out⟩
theorem ovR_succ (E : Nat → Int × Int × List Gl) (n k : Nat) : ovR E n (k + 1) = ovR E n k ++ ovRow E k (k + 1) n := by
  unfold ovR
  rw [List.range_succ, List.flatMap_append]
  simp
theorem ovRow_succ (E : Nat → Int × Int × List Gl) (i : Nat) {k m : Nat} (h : k ≤ m) : ovRow E i k (m + 1) = ovRow E i k m ++ (ovOne E i m).toList := by
  unfold ovRow
  rw [show m + 1 - k = (m - k) + 1 by omega, List.range'_concat, List.filterMap_append, Nat.one_mul, show k + (m - k) = m by omega]
  congr 1
  try (cases h : ovOne E i m <;> simp [h])
theorem ovRow_len (E : Nat → Int × Int × List Gl) (i k m : Nat) : (ovRow E i k m).length ≤ m := by
  unfold ovRow
  refine Nat.le_trans (List.length_filterMap_le _ _) ?_
  rw [List.length_range']; omega
theorem ovR_len (E : Nat → Int × Int × List Gl) (n : Nat) (hn : n ≤ 1000) : ∀ k, (ovR E n k).length ≤ k * 1000
  | 0 => by simp [ovR]
  | k + 1 => by
    have h1 := ovR_len E n hn k
    have h2 := ovRow_len E k (k + 1) n
    rw [ovR_succ, List.length_append]
    omega
def OrA (w2 : World) (d : Doc) (n : Nat) (v i : Value) (wr : World) : Prop :=
  ∃ k : Nat, k ≤ n ∧ i = .int .i64 k ∧ Ext w2 wr ∧ wr.ownsRow w2.heap.size 46 4 v (ovR d.ovE n k).length ((ovR d.ovE n k).flatMap Ov.vals)
def OrB (w2 : World) (d : Doc) (n k : Nat) (v i : Value) (wr : World) : Prop :=
  ∃ m : Nat, k < m ∧ m ≤ n ∧ i = .int .i64 m ∧ Ext w2 wr ∧ wr.ownsRow w2.heap.size 46 4 v (ovR d.ovE n k ++ ovRow d.ovE k (k + 1) m).length ((ovR d.ovE n k ++ ovRow d.ovE k (k + 1) m).flatMap Ov.vals)
def PGl (l : List Gl) : Value → World → Prop := fun v w => ∃ A c, v = .slice A l.length c ∧ GlsAt w A l.length l
def PBo (b : Bool) : Value → World → Prop := fun v _ => v = .bool b
theorem pgl_stable (l1 l2 : List Gl) (b : Bool) : QCSt [PGl l1, PGl l2, PBo b, PBo b] := by
  have key : ∀ l u w w', Ext w w' → PGl l u w → PGl l u w' := fun l u w w' hx ⟨A, c, h1, h2⟩ => ⟨A, c, h1, h2.ext hx⟩
  intro p hp u w w' hx h
  simp only [List.mem_cons, List.not_mem_nil, or_false] at hp
  rcases hp with rfl | rfl | rfl | rfl
  · exact key _ u w w' hx h
  · exact key _ u w w' hx h
  · exact h
  · exact h
set_option maxRecDepth 100000 in
set_option maxHeartbeats 16000000 in
theorem R32Overlaps_any (d : Doc) (h : DocH) (w : World) (hE : Env w) (hat : DocAt w d h) (hf : DocFit d) (hrn : h.rn ≤ 9223372036854775807) (hn : h.en ≤ 1000) (hcn : h.cn ≤ 1000000) :
    Calls Tryz.prog 21 #[.agg (d.cells h)] w (OvPost d.err d.ovl w) := by
  have HEn := Lib.hid hE
  have HAt := Lib.hid hat
  have HFt := Lib.hid hf
  have HCk := Lib.hid (fun w' (hx : Ext w w') => R12Check_any d h w' (hE.ext hx) (hat.ext hx) hf hrn (by omega) (by omega))
  have HLn := Lib.hid hat.evs.len
  have V1 : Hid (d.err ≠ 0 → d.ovl = []) := fun h => by unfold Doc.ovl; rw [if_neg h]
  have V2 : Hid (d.err = 0 → d.ovl = ovR d.ovE h.en h.en) := fun h0 => by unfold Doc.ovl Doc.ovs; rw [if_pos h0, hat.evs.len]
  have HEv0 := Lib.hid (fun (h0 : d.err = 0) e (he : e ∈ d.evs) => doc_ev h0 he)
  clear hE hat hf hcn
  obtain ⟨ra, nr, rc, ea, en, ec, ca, nc, cc⟩ := h
  unfold Doc.cells at *
  dsimp only at *
  have HX0 := Lib.hid ((Ext.refl w).alloc (.cells #[.string d.title, .string d.lang, .int .u8 d.rate, .bool d.drop, .int .i64 d.last, .slice ra nr rc, .slice ea en ec, .slice ca nc cc] 27))
  have HB0 := Lib.hid (Blk.new w 27 #[.string d.title, .string d.lang, .int .u8 d.rate, .bool d.drop, .int .i64 d.last, .slice ra nr rc, .slice ea en ec, .slice ca nc cc])
  go_enter Tryz.func21, Tryz.ntmps21
  go_wp2_with (refine wpList_loadB rfl 27 (.tmp 1) rfl w.heap.size 27 _ _ (by exact rfl) (by exact HB0.out) Tryz.underlying27 rfl (by exact size_doc) ?_)
  refine (HCk.out _ HX0.out).mono ?_
  rintro en' w1 ⟨rfl, hx1⟩
  have HX1 := Lib.hid (HX0.out.trans hx1)
  have HB1 := Lib.hid (HB0.out.ext hx1)
  clear hx1 HX0 HB0 HCk
  by_cases he : d.err = 0
  case neg =>
    have hne : (d.err != 0) = true := by simpa using he
    have HN := Lib.hid he
    clear he
    go_wp2_with fail
    go_ret2
    rw [V1.out HN.out]
    exact ⟨none, 0, rfl, Sl.nil, Nat.le_refl _, HX1.out⟩
  have HOk := Lib.hid he
  have HV2 := Lib.hid (V2.out he)
  have HEv := Lib.hid (HEv0.out he)
  rw [he]
  clear he V1 V2 HEv0
  have hb6 : w1.cell? ⟨w.heap.size, 6, none⟩ = some (.slice ea en ec) := HB1.out.cell 6
  go_wp2_with fail
  clear hb6
  go_loopw [5, 19] (fun v i wr => OrA w1 d en v i wr) (fun _ i _ => en - (intOf i).toNat)
  case atStart => exact ⟨0, Nat.zero_le _, rfl, Ext.refl _, ⟨rfl, .inl ⟨rfl, rfl⟩⟩⟩
  case round =>
    obtain ⟨k, hk, rfl, hx, hown⟩ := hrel
    have HX := Lib.hid hx
    have HO := Lib.hid hown
    clear hx hown
    by_cases hlt : k < en
    · obtain ⟨b, off, x, A1, n1, c1, hea, hxx, hEx, d0, d1, d2, d3, d4, d5, d6⟩ := (HAt.out.evs.ext HX1.out).at_ev hlt
      subst hea
      have c0 := HX.out.cell d0
      have c1' := HX.out.cell d1
      have c2 := HX.out.cell d2
      have c3 := HX.out.cell d3
      have c4 := HX.out.cell d4
      have c5 := HX.out.cell d5
      have c6 := HX.out.cell d6
      clear d0 d1 d2 d3 d4 d5 d6
      have hmx := List.mem_of_getElem? hxx
      have HPx0 := Lib.hid (fun w' (hx : Ext w1 w') => R32glyphs x A1 n1 c1 ra nr rc d.regs w' (HEn.out.ext (HX1.out.trans hx)) (hEx.ext hx) ((HFt.out.evs x hmx).1.2.2) (HAt.out.regs.ext (HX1.out.trans hx)) hrn HFt.out.regs (HEv.out x hmx))
      have HEx : Hid (d.ovE k = (x.inn, x.out, x.gls d.regs)) := by show _ = _; unfold Doc.ovE; rw [hxx]; rfl
      have hglx : (x.gls d.regs).length ≤ 480 := gls_len (HEv.out x hmx)
      unfold Ev.cells at HPx0
      unfold GlsPost at HPx0
      clear hxx hEx hmx
      go_upto_region 8 with fail
      clear c0 c1' c2 c3 c4 c5 c6
      have HBx0 := Lib.hid (Blk.new wr 53 #[.int .i64 x.id, .int .i64 x.inn, .int .i64 x.out, .string x.region, .int .u8 x.kind, .string x.speaker, .slice A1 n1 c1])
      have HXa := Lib.hid (HX.out.alloc (.cells #[.int .i64 x.id, .int .i64 x.inn, .int .i64 x.out, .string x.region, .int .u8 x.kind, .string x.speaker, .slice A1 n1 c1] 53))
      have HXw := Lib.hid ((Ext.refl wr).alloc (.cells #[.int .i64 x.id, .int .i64 x.inn, .int .i64 x.out, .string x.region, .int .u8 x.kind, .string x.speaker, .slice A1 n1 c1] 53))
      have HOa := Lib.hid (HO.out.alloc (.cells #[.int .i64 x.id, .int .i64 x.inn, .int .i64 x.out, .string x.region, .int .u8 x.kind, .string x.speaker, .slice A1 n1 c1] 53))
      have hlr := ovR_len d.ovE en hn k
      generalize wr.alloc (.cells #[.int .i64 x.id, .int .i64 x.inn, .int .i64 x.out, .string x.region, .int .u8 x.kind, .string x.speaker, .slice A1 n1 c1] 53) = W1 at *
      generalize wr.heap.size = gx at *
      clear HX HO HXw
      go_wp2_with fail
      go_loopw [5, 8] (fun v i wq => OrB w1 d en k v i wq ∧ Only 46 W1 wq) (fun _ i _ => en - (intOf i).toNat)
      case atStart => exact ⟨⟨k + 1, by omega, by omega, by go_num, HXa.out, by have h1 := HOa.out; simpa [ovRow] using h1⟩, Only.refl _⟩
      case round =>
        obtain ⟨⟨m, hkm, hm, rfl, hx, hown⟩, hx1⟩ := hrel
        have HXq := Lib.hid hx
        have HX1q := Lib.hid hx1
        have HOq := Lib.hid hown
        have HBd2 := Lib.hid (HB1.out.ext hx)
        have hb6 : wr.cell? ⟨w.heap.size, 6, none⟩ = some (.slice (some ⟨b, off, none⟩) en ec) := HBd2.out.cell 6
        clear hx hown hx1
        by_cases hme : m < en
        · obtain ⟨b2, off2, y, A2, n2, c2, he2, hyy, hEy, d0, d1, d2, d3, d4, d5, d6⟩ := (HAt.out.evs.ext HX1.out).at_ev hme
          cases he2
          have c0 := HXq.out.cell d0
          have c1' := HXq.out.cell d1
          have c2' := HXq.out.cell d2
          have c3 := HXq.out.cell d3
          have c4 := HXq.out.cell d4
          have c5 := HXq.out.cell d5
          have c6 := HXq.out.cell d6
          clear d0 d1 d2 d3 d4 d5 d6
          have hmy := List.mem_of_getElem? hyy
          have HPy0 := Lib.hid (fun w' (hx : Ext w1 w') => R32glyphs y A2 n2 c2 ra nr rc d.regs w' (HEn.out.ext (HX1.out.trans hx)) (hEy.ext hx) ((HFt.out.evs y hmy).1.2.2) (HAt.out.regs.ext (HX1.out.trans hx)) hrn HFt.out.regs (HEv.out y hmy))
          have hEy2 : d.ovE m = (y.inn, y.out, y.gls d.regs) := by unfold Doc.ovE; rw [hyy]; rfl
          have HOne : Hid (ovOne d.ovE k m = if max x.inn y.inn < min x.out y.out ∧ meetB (x.gls d.regs) (y.gls d.regs) = true then some ⟨k, m, max x.inn y.inn, min x.out y.out⟩ else none) := by show _ = _; unfold ovOne; rw [HEx.out, hEy2]
          have hgly : (y.gls d.regs).length ≤ 480 := gls_len (HEv.out y hmy)
          have HCl := Lib.hid (ovRow_succ d.ovE k (show k + 1 ≤ m by omega))
          have hCl := ovRow_len d.ovE k (k + 1) m
          unfold Ev.cells at HPy0
          unfold GlsPost at HPy0
          clear hyy hEy hEy2 hmy
          go_upto_region 12 with fail
          clear c0 c1' c2' c3 c4 c5 c6 hb6
          have HBy1 := Lib.hid (Blk.new wr 53 #[.int .i64 y.id, .int .i64 y.inn, .int .i64 y.out, .string y.region, .int .u8 y.kind, .string y.speaker, .slice A2 n2 c2])
          have HXb := Lib.hid ((Ext.refl wr).alloc (.cells #[.int .i64 y.id, .int .i64 y.inn, .int .i64 y.out, .string y.region, .int .u8 y.kind, .string y.speaker, .slice A2 n2 c2] 53))
          have HOb := Lib.hid (HOq.out.alloc (.cells #[.int .i64 y.id, .int .i64 y.inn, .int .i64 y.out, .string y.region, .int .u8 y.kind, .string y.speaker, .slice A2 n2 c2] 53))
          generalize wr.alloc (.cells #[.int .i64 y.id, .int .i64 y.inn, .int .i64 y.out, .string y.region, .int .u8 y.kind, .string y.speaker, .slice A2 n2 c2] 53) = W2 at *
          generalize wr.heap.size = gy at *
          have HX2q := Lib.hid (HX1q.out.trans (Only.ext HXb.out))
          have HXq2 := Lib.hid (HXq.out.trans HXb.out)
          have HBx2 := Lib.hid (HBx0.out.only HX2q.out (by decide))
          have ha1 : W2.cell? ⟨gx, 1, none⟩ = some (.int .i64 x.inn) := HBx2.out.cell 1
          have ha2 : W2.cell? ⟨gx, 2, none⟩ = some (.int .i64 x.out) := HBx2.out.cell 2
          have hb1 : W2.cell? ⟨gy, 1, none⟩ = some (.int .i64 y.inn) := HBy1.out.cell 1
          have hb2 : W2.cell? ⟨gy, 2, none⟩ = some (.int .i64 y.out) := HBy1.out.cell 2
          clear HXq HOq HBd2 HXb HX1q
          go_upto_region 13 with fail
          clear ha1 ha2 hb1 hb2
          have HX5 := Lib.hid (HXq2.out.alloc (.cells #[.int .i64 (max x.inn y.inn), .int .i64 (min x.out y.out)] 44))
          have HX5q := Lib.hid (HX2q.out.trans (Only.ext ((Ext.refl W2).alloc (.cells #[.int .i64 (max x.inn y.inn), .int .i64 (min x.out y.out)] 44))))
          have hx25 := ((Ext.refl W2).alloc (.cells #[.int .i64 (max x.inn y.inn), .int .i64 (min x.out y.out)] 44))
          have HBs := Lib.hid (Blk.new W2 44 #[.int .i64 (max x.inn y.inn), .int .i64 (min x.out y.out)])
          have HBx := Lib.hid (HBx2.out.ext hx25)
          have HBy := Lib.hid (HBy1.out.ext hx25)
          have HBd := Lib.hid (HB1.out.ext HX5.out)
          have HO5 := Lib.hid (HOb.out.alloc (.cells #[.int .i64 (max x.inn y.inn), .int .i64 (min x.out y.out)] 44))
          have HPx := Lib.hid (fun w' (hx : Ext (W2.alloc (.cells #[.int .i64 (max x.inn y.inn), .int .i64 (min x.out y.out)] 44)) w') => HPx0.out w' (HX5.out.trans hx))
          have HPy := Lib.hid (fun w' (hx : Ext (W2.alloc (.cells #[.int .i64 (max x.inn y.inn), .int .i64 (min x.out y.out)] 44)) w') => HPy0.out w' (HX5.out.trans hx))
          clear hx25 HX2q HXq2 HBx2 HBy1 HOb HPy0
          generalize W2.alloc (.cells #[.int .i64 (max x.inn y.inn), .int .i64 (min x.out y.out)] 44) = w5 at *
          generalize W2.heap.size = g16 at *
          generalize max x.inn y.inn = si at *
          generalize min x.out y.out = so at *
          have hlb : (ovR d.ovE en k ++ ovRow d.ovE k (k + 1) m).length ≤ 1002000 := by rw [List.length_append]; omega
          by_cases hsp : si < so
          · obtain ⟨mb, hmb⟩ : ∃ mb, mb = meetB (x.gls d.regs) (y.gls d.regs) := ⟨_, rfl⟩
            have HMb : Hid (meetB (x.gls d.regs) (y.gls d.regs) = mb) := hmb.symm
            have HON : Hid (ovOne d.ovE k m = if mb = true then some ⟨k, m, si, so⟩ else none) := by show _ = _; rw [HOne.out, ← hmb]; simp only [hsp, true_and]
            clear hmb HOne
            generalize x.gls d.regs = gx1 at *
            generalize y.gls d.regs = gy1 at *
            have hST := pgl_stable gx1 gy1 mb
            refine wp_region_linksG [(5, true)] [some 53, some 54, some 55, some 56, some 57, some 58, some 59, some 60, some 61, some 62, some 63, some 64, some 65, some 66, some 67, some 68] [[], [0], [], [2], [1, 3], [4], [5], [6, 5], [5], [7, 8, 5, 5], [5], [10, 5], [5], [11, 12, 9, 5], [9, 13, 13, 5], [5, 14]] [9, 13, 14, 15] [.pointer (some ⟨g16, 0, none⟩), .int .i64 si, .pointer (some ⟨g16, 1, none⟩), .int .i64 so, .bool true, .bool true, .pointer (some ⟨w.heap.size, 5, none⟩), .slice ra nr rc, .agg #[.int .i64 x.id, .int .i64 x.inn, .int .i64 x.out, .string x.region, .int .u8 x.kind, .string x.speaker, .slice A1 n1 c1], undef, .pointer (some ⟨w.heap.size, 5, none⟩), .slice ra nr rc, .agg #[.int .i64 y.id, .int .i64 y.inn, .int .i64 y.out, .string y.region, .int .u8 y.kind, .string y.speaker, .slice A2 n2 c2], undef, undef, undef] (QC [PGl gx1, PGl gy1, PBo mb, PBo mb] w5) (by intro g hg; simp only [List.mem_cons, List.not_mem_nil, or_false] at hg; rcases hg with rfl; rfl) (by kernel_rfl) (by kernel_rfl) (by kernel_rfl) (by kernel_rfl) (by kernel_rfl) (by kernel_rfl) (by kernel_rfl) (by decide) ?_ ?_ ?_ ?_
            · exact QC.start _ w5
            · intro i o ho hc a w' us K' hJ hF hlim hk
              match i, ho with
              | 0, ho =>
                simp only [List.getElem?_toArray, List.getElem?_cons_zero, List.getElem?_cons_succ, Option.some.injEq] at ho
                subst ho
                have e10 := hF.old 10 (.pointer (some ⟨g16, 0, none⟩)) rfl rfl
                simp only [Act.eval] at e10
                clear hF hlim hJ
                go_simp
                exact hk
              | 1, ho =>
                simp only [List.getElem?_toArray, List.getElem?_cons_zero, List.getElem?_cons_succ, Option.some.injEq] at ho
                subst ho
                have e53 := hF.pure 0 53 (.pointer (some ⟨g16, 0, none⟩)) rfl rfl rfl rfl
                have hcl := (HBs.out.ext hJ.ext).cell 0
                simp only [Act.eval] at e53
                clear hF hlim hJ
                go_simp
                exact hk
              | 2, ho =>
                simp only [List.getElem?_toArray, List.getElem?_cons_zero, List.getElem?_cons_succ, Option.some.injEq] at ho
                subst ho
                have e10 := hF.old 10 (.pointer (some ⟨g16, 0, none⟩)) rfl rfl
                simp only [Act.eval] at e10
                clear hF hlim hJ
                go_simp
                exact hk
              | 3, ho =>
                simp only [List.getElem?_toArray, List.getElem?_cons_zero, List.getElem?_cons_succ, Option.some.injEq] at ho
                subst ho
                have e55 := hF.pure 2 55 (.pointer (some ⟨g16, 1, none⟩)) rfl rfl rfl rfl
                have hcl := (HBs.out.ext hJ.ext).cell 1
                simp only [Act.eval] at e55
                clear hF hlim hJ
                go_simp
                exact hk
              | 4, ho =>
                simp only [List.getElem?_toArray, List.getElem?_cons_zero, List.getElem?_cons_succ, Option.some.injEq] at ho
                subst ho
                have e54 := hF.pure 1 54 (.int .i64 si) rfl rfl rfl rfl
                have e56 := hF.pure 3 56 (.int .i64 so) rfl rfl rfl rfl
                simp only [Act.eval] at e54 e56
                clear hF hlim hJ
                go_simp
                exact hk
              | 5, ho =>
                simp only [List.getElem?_toArray, List.getElem?_cons_zero, List.getElem?_cons_succ, Option.some.injEq] at ho
                subst ho
                have e57 := hF.pure 4 57 (.bool true) rfl rfl rfl rfl
                simp only [Act.eval] at e57
                clear hF hlim hJ
                go_simp
                exact hk
              | 6, ho =>
                simp only [List.getElem?_toArray, List.getElem?_cons_zero, List.getElem?_cons_succ, Option.some.injEq] at ho
                subst ho
                have e1 := hF.old 1 (.pointer (some ⟨w.heap.size, 0, none⟩)) rfl rfl
                simp only [Act.eval] at e1
                clear hF hlim hJ
                go_simp
                exact hk
              | 7, ho =>
                simp only [List.getElem?_toArray, List.getElem?_cons_zero, List.getElem?_cons_succ, Option.some.injEq] at ho
                subst ho
                have e59 := hF.pure 6 59 (.pointer (some ⟨w.heap.size, 5, none⟩)) rfl rfl rfl rfl
                have hcl := (HBd.out.ext hJ.ext).cell 5
                simp only [Act.eval] at e59
                clear hF hlim hJ
                go_simp
                exact hk
              | 8, ho =>
                simp only [List.getElem?_toArray, List.getElem?_cons_zero, List.getElem?_cons_succ, Option.some.injEq] at ho
                subst ho
                have e7 := hF.old 7 (.pointer (some ⟨gx, 0, none⟩)) rfl rfl
                exact wp_loadBk 53 (.tmp 7) rfl gx 53 _ _ e7 (HBx.out.ext hJ.ext) Tryz.underlying53 rfl (by exact size_evt) hk
              | 9, ho => simp at hc
              | 10, ho =>
                simp only [List.getElem?_toArray, List.getElem?_cons_zero, List.getElem?_cons_succ, Option.some.injEq] at ho
                subst ho
                have e1 := hF.old 1 (.pointer (some ⟨w.heap.size, 0, none⟩)) rfl rfl
                simp only [Act.eval] at e1
                clear hF hlim hJ
                go_simp
                exact hk
              | 11, ho =>
                simp only [List.getElem?_toArray, List.getElem?_cons_zero, List.getElem?_cons_succ, Option.some.injEq] at ho
                subst ho
                have e63 := hF.pure 10 63 (.pointer (some ⟨w.heap.size, 5, none⟩)) rfl rfl rfl rfl
                have hcl := (HBd.out.ext hJ.ext).cell 5
                simp only [Act.eval] at e63
                clear hF hlim hJ
                go_simp
                exact hk
              | 12, ho =>
                simp only [List.getElem?_toArray, List.getElem?_cons_zero, List.getElem?_cons_succ, Option.some.injEq] at ho
                subst ho
                have e9 := hF.old 9 (.pointer (some ⟨gy, 0, none⟩)) rfl rfl
                exact wp_loadBk 53 (.tmp 9) rfl gy 53 _ _ e9 (HBy.out.ext hJ.ext) Tryz.underlying53 rfl (by exact size_evt) hk
              | 13, ho => simp at hc
              | 14, ho => simp at hc
              | 15, ho => simp at hc
              | i + 16, ho => simp at ho
            · intro p c' o hp ho a w' us K' hl hJ hF hk
              match p, hp with
              | 0, hp =>
                obtain rfl : 9 = c' := by simpa using hp
                simp only [List.getElem?_toArray, List.getElem?_cons_zero, List.getElem?_cons_succ, Option.some.injEq] at ho
                subst ho
                obtain rfl : us = [] := List.eq_nil_of_length_eq_zero hl
                have e60 := hF.pure 7 60 (.slice ra nr rc) rfl rfl rfl rfl
                have e61 := hF.pure 8 61 (.agg #[.int .i64 x.id, .int .i64 x.inn, .int .i64 x.out, .string x.region, .int .u8 x.kind, .string x.speaker, .slice A1 n1 c1]) rfl rfl rfl rfl
                exact wp_call2g rfl e60 e61 Tryz.call46 (HPx.out w' hJ.ext) (fun en w5 hp => by obtain ⟨qa, qc, rfl, h1, -, h3, -⟩ := hp; exact ⟨_, rfl, hk _ w5 (hJ.push hST h3 (fun p hp => by cases hp; exact ⟨qa, qc, rfl, h1⟩))⟩)
              | 1, hp =>
                obtain rfl : 13 = c' := by simpa using hp
                simp only [List.getElem?_toArray, List.getElem?_cons_zero, List.getElem?_cons_succ, Option.some.injEq] at ho
                subst ho
                obtain ⟨u0, rfl⟩ := list_1 hl
                have e64 := hF.pure 11 64 (.slice ra nr rc) rfl rfl rfl rfl
                have e65 := hF.pure 12 65 (.agg #[.int .i64 y.id, .int .i64 y.inn, .int .i64 y.out, .string y.region, .int .u8 y.kind, .string y.speaker, .slice A2 n2 c2]) rfl rfl rfl rfl
                exact wp_call2g rfl e64 e65 Tryz.call46 (HPy.out w' hJ.ext) (fun en w5 hp => by obtain ⟨qa, qc, rfl, h1, -, h3, -⟩ := hp; exact ⟨_, rfl, hk _ w5 (hJ.push hST h3 (fun p hp => by cases hp; exact ⟨qa, qc, rfl, h1⟩))⟩)
              | 2, hp =>
                obtain rfl : 14 = c' := by simpa using hp
                simp only [List.getElem?_toArray, List.getElem?_cons_zero, List.getElem?_cons_succ, Option.some.injEq] at ho
                subst ho
                obtain ⟨u0, u1, rfl⟩ := list_2 hl
                have e62 := hF.link 0 9 62 _ rfl rfl rfl rfl
                have e66 := hF.link 1 13 66 _ rfl rfl rfl rfl
                obtain ⟨qa, qc, hu0, hg0⟩ : PGl gx1 u0 w' := hJ.val 0 u0 _ rfl rfl
                obtain ⟨qb, qd, hu1, hg1⟩ : PGl gy1 u1 w' := hJ.val 1 u1 _ rfl rfl
                rw [hu0] at e62
                rw [hu1] at e66
                exact wp_call2g rfl e62 e66 Tryz.call45 (R32meet_any qa gx1.length qc gx1 qb gy1.length qd gy1 w' hg0 hg1 (by omega) (by omega)) (fun en w5 hp => by obtain ⟨rfl, h3⟩ := hp; exact ⟨_, rfl, hk _ w5 (hJ.push hST h3 (fun p hp => by cases hp; exact (congrArg Value.bool HMb.out)))⟩)
              | 3, hp =>
                obtain rfl : 15 = c' := by simpa using hp
                simp only [List.getElem?_toArray, List.getElem?_cons_zero, List.getElem?_cons_succ, Option.some.injEq] at ho
                subst ho
                obtain ⟨u0, u1, u2, rfl⟩ := list_3 hl
                have e58 := hF.pure 5 58 (.bool true) rfl rfl rfl rfl
                have e67 := hF.link 2 14 67 _ rfl rfl rfl rfl
                have hu2 : u2 = .bool mb := hJ.val 2 u2 _ rfl rfl
                rw [hu2] at e67
                have HK := Lib.hid (hk (.bool mb) w' (hJ.push hST (Ext.refl _) (fun p hp => by cases hp; rfl)))
                simp only [Act.eval] at e58 e67
                clear hk hF hJ hu2
                go_simp
                exact HK.out
              | p + 4, hp => simp at hp
            intro us w6 hl hJ
            obtain ⟨u0, u1, u2, u3, rfl⟩ := list_4 hl
            first | (rename_i hK; refine hK _ _ ?_; clear hK) | (rename_i hK hK_1; refine hK _ _ ?_; clear hK) | (rename_i hK hK_1 hK_2; refine hK _ _ ?_; clear hK) | (rename_i hK hK_1 hK_2 hK_3; refine hK _ _ ?_; clear hK)
            generalize hL : frameL _ _ _ _ = L
            obtain rfl : L = [(53, .pointer (some ⟨g16, 0, none⟩)), (54, .int .i64 si), (55, .pointer (some ⟨g16, 1, none⟩)), (56, .int .i64 so), (57, .bool true), (58, .bool true), (59, .pointer (some ⟨w.heap.size, 5, none⟩)), (60, .slice ra nr rc), (61, .agg #[.int .i64 x.id, .int .i64 x.inn, .int .i64 x.out, .string x.region, .int .u8 x.kind, .string x.speaker, .slice A1 n1 c1]), (62, u0), (63, .pointer (some ⟨w.heap.size, 5, none⟩)), (64, .slice ra nr rc), (65, .agg #[.int .i64 y.id, .int .i64 y.inn, .int .i64 y.out, .string y.region, .int .u8 y.kind, .string y.speaker, .slice A2 n2 c2]), (66, u1), (67, u2), (68, u3)] := hL.symm.trans (by kernel_rfl)
            clear hL hl
            simp only [Act.put, List.foldl_cons, List.foldl_nil, List.setIfInBounds_toArray, List.set_cons_zero, List.set_cons_succ]
            have hu3 : u3 = .bool mb := hJ.val 3 u3 _ rfl rfl
            subst hu3
            have HX6 := Lib.hid (HX5.out.trans hJ.ext)
            have HX6q := Lib.hid (HX5q.out.trans (Only.ext hJ.ext))
            have HO6 := Lib.hid (own_ext HO5.out hJ.ext)
            have HB6 := Lib.hid (HBs.out.ext hJ.ext)
            have hz6 := HX6.out.size
            clear hJ HX5 HX5q HO5 HBs HBx HBy HBd HPx HPy hST
            cases mb with
            | true =>
              go_wp2_with (first | (refine wpList_loadB rfl 44 (.tmp 10) rfl g16 44 _ _ (by exact rfl) (by exact HB6.out) Tryz.underlying44 rfl (by exact size_span2) ?_) | (at_builtin; refine wpList_append1 rfl (.tmp 69) (.tmp 74) 40 rfl info_ov Tryz.underlying40 rfl (by decide) (HO6.out.alloc _) (by exact rfl) w6.heap.size _ (by exact rfl) (by exact Blk.new' rfl) (by exact rfl) (by simp [Value.oneCell']) (by omega) (by simp [maxLen]; omega) (by simp; omega) ?_; intro v' w7 hown7 hgr))
              refine ⟨⟨⟨m + 1, by omega, by omega, by go_num, (HX6.out.alloc _).grown hgr (fun q hq => own_lt HO6.out q hq), ?_⟩, (HX6q.out.trans (Only.ext ((Ext.refl w6).alloc _))).trans (Only.grown hgr (own_typed (HO6.out.alloc _)))⟩, by simp [intOf]; omega⟩
              rw [HCl.out, HON.out, if_pos rfl, Option.toList_some, ← List.append_assoc, List.length_append, List.flatMap_append]
              exact hown7
            | false =>
              go_wp2_with fail
              exact ⟨⟨⟨m + 1, by omega, by omega, by go_num, HX6.out, by rw [HCl.out, HON.out, if_neg (by simp), Option.toList_none, List.append_nil]; exact HO6.out⟩, HX6q.out⟩, by simp [intOf]; omega⟩
          · have HON : Hid (ovOne d.ovE k m = none) := by show _ = _; rw [HOne.out, if_neg (fun h => hsp h.1)]
            have hr1 := fun (z : EW w5) (o : Nat) => (HBs.out.ext z.ext).cell o
            refine wp_region_ew w5 (Ext.refl _) (by kernel_rfl) (by kernel_rfl) ?_
            repeat (go_big_quiet_step (fail))
            refine wpQuiet_nil ?_
            rintro w6 ⟨⟨_, hx6⟩, rfl⟩
            try dsimp only
            have HX6 := Lib.hid (HX5.out.trans hx6)
            have HX6q := Lib.hid (HX5q.out.trans (Only.ext hx6))
            have HO6 := Lib.hid (own_ext HO5.out hx6)
            clear hr1 hx6 HX5 HX5q HO5 HBs HBx HBy HBd HPx HPy
            go_wp2_with fail
            exact ⟨⟨⟨m + 1, by omega, by omega, by go_num, HX6.out, by rw [HCl.out, HON.out, Option.toList_none, List.append_nil]; exact HO6.out⟩, HX6q.out⟩, by simp [intOf]; omega⟩
        · have hme2 : m = en := by omega
          have HOc : Hid (wr.ownsRow w1.heap.size 46 4 u5 (ovR d.ovE en (k + 1)).length ((ovR d.ovE en (k + 1)).flatMap Ov.vals)) := by
            have h1 := HOq.out
            rw [hme2] at h1
            rw [ovR_succ]
            exact h1
          clear HOq
          go_wp2_with fail
          exact ⟨⟨k + 1, by omega, by go_num, HXq.out, HOc.out⟩, by simp [intOf]; omega⟩
    · have hkn : k = en := by omega
      have hHO := HO.out
      rw [hkn] at hHO
      obtain ⟨A, c, rfl, hc, _, hS, _⟩ := own_sl (f := Ov.vals) (size := 4) (fun _ => rfl) rfl hHO
      have HS := Lib.hid hS
      have HXf := Lib.hid (HX1.out.trans HX.out)
      clear HO hHO hS hkn
      go_wp2_with fail
      go_ret2
      rw [HV2.out, HOk.out]
      exact ⟨A, c, rfl, HS.out, hc, HXf.out⟩
end Go.Proofs.YtajbhfmdmajpmaaGreatDoor

/-! LawOverlaps32 -/
namespace Go.Proofs.YtajbhfmdmajpmaaGreatDoor
set_option linter.unusedVariables false
set_option linter.unusedSimpArgs false
open Go.RowKit
theorem neq_ov (o : Ov) (w : World) : (binOp .neq 46 (.agg #[.int .i64 o.a, .int .i64 o.b, .int .i64 o.inn, .int .i64 o.out]) (.agg #[.int .i64 o.a, .int .i64 o.b, .int .i64 o.inn, .int .i64 o.out])).run Tryz.prog w = .ok (.bool false) w := by
  go_simp
theorem ovl_len (d : Doc) (hn : d.evs.length ≤ 1000) : d.ovl.length ≤ 1000000 := by
  unfold Doc.ovl
  split
  · unfold Doc.ovs
    have := ovR_len d.ovE d.evs.length hn d.evs.length
    omega
  · simp
set_option maxRecDepth 100000 in
set_option maxHeartbeats 8000000 in
theorem DisplayOverlaps_any (d : Doc) (h : DocH) (w : World) (hE : Env w) (hat : DocAt w d h) (hi : DocIn d h) :
    Calls Tryz.prog 5 #[.agg (d.cells h)] w fun en w' => en = .returned (.bool true) ∧ Ext w w' := by
  have HX0 : Hid (Ext w (w.alloc (.cells (d.cells h) 27))) := (Ext.refl w).alloc _
  have HB0 : Hid (Blk (w.alloc (.cells (d.cells h) 27)) w.heap.size 27 (d.cells h)) := Blk.new w _ _
  have HAw := Lib.hid (fun w' (hx : Ext w w') => awake32_any w' (hE.ext hx))
  have HSm := Lib.hid (fun w' => Small_any d h w')
  have HHi := Lib.hid hi
  have HEn := Lib.hid hE
  have HAt := Lib.hid hat
  have HOv := Lib.hid (fun (hn : h.en ≤ 1000) w' (hx : Ext w w') => Overlaps_any d h w' (hE.ext hx) (hat.ext hx) hi.fit hi.rn hn hi.cn)
  have HOr := Lib.hid (fun (hn : h.en ≤ 1000) w' (hx : Ext w w') => R32Overlaps_any d h w' (hE.ext hx) (hat.ext hx) hi.fit hi.rn hn hi.cn)
  have HLe := Lib.hid hat.evs.len
  clear hE hat hi
  obtain ⟨ra, nr, rc, ea, en, ec, ca, nc, cc⟩ := h
  unfold Doc.cells at *
  dsimp only at *
  go_enter Tryz.func5, Tryz.ntmps5
  go_wp2_with fail
  refine (HAw.out _ HX0.out).mono ?_
  rintro en1 w1 ⟨rfl, hx1⟩
  have HX1 := Lib.hid (HX0.out.trans hx1)
  have HB1 := Lib.hid (HB0.out.ext hx1)
  clear hx1 HX0 HB0 HAw
  go_wp2_with (refine wpList_loadB rfl 27 (.tmp 1) rfl w.heap.size 27 _ _ (by exact rfl) (by exact HB1.out) Tryz.underlying27 rfl (by exact size_docI) ?_)
  refine (HSm.out _).mono ?_
  rintro en2 w2 ⟨rfl, hx2⟩
  have HX2 := Lib.hid (HX1.out.trans hx2)
  have HB2 := Lib.hid (HB1.out.ext hx2)
  clear hx2 HX1 HB1 HSm
  by_cases hsm : en ≤ 40 ∧ nr ≤ 40 ∧ nc ≤ 100
  case neg =>
    rw [decide_eq_false hsm]
    clear hsm
    go_wp2_with fail
    go_ret
    exact ⟨rfl, HX2.out⟩
  rw [decide_eq_true hsm]
  have HSml := Lib.hid hsm
  clear hsm
  have hen : en ≤ 40 := HSml.out.1
  have HLw : Hid (d.ovl.length ≤ 1000000) := ovl_len d (by have := HLe.out; omega)
  unfold OvPost at HOv HOr
  generalize d.ovl = ol at *
  generalize d.err = oe at *
  go_wp2_with (refine wpList_loadB rfl 27 (.tmp 1) rfl w.heap.size 27 _ _ (by exact rfl) (by exact HB2.out) Tryz.underlying27 rfl (by exact size_docI) ?_)
  refine (HOv.out (by omega) _ HX2.out).mono ?_
  rintro en3 w3 ⟨A1, c1, rfl, hS, hc1, hx3⟩
  have HX3 := Lib.hid (HX2.out.trans hx3)
  have HB3 := Lib.hid (HB2.out.ext hx3)
  have HS := Lib.hid hS
  clear hS hx3 HX2 HB2 HOv
  go_wp2_with (refine wpList_loadB rfl 27 (.tmp 1) rfl w.heap.size 27 _ _ (by exact rfl) (by exact HB3.out) Tryz.underlying27 rfl (by exact size_docI) ?_)
  refine (HOr.out (by omega) _ HX3.out).mono ?_
  rintro en4 w4 ⟨A2, c2, rfl, hS2, hc2, hx4⟩
  have HX4 := Lib.hid (HX3.out.trans hx4)
  have HS1 := Lib.hid (Sl.ext (Cells.stays _) HS.out hx4)
  have HS2 := Lib.hid hS2
  clear hS2 hx4 HX3 HB3 HS HOr
  have hlw := HLw.out
  go_wp2_with fail
  go_loopw [35] (fun i wr => ∃ k : Nat, k ≤ ol.length ∧ i = .int .i64 k ∧ Ext w4 wr) (fun i _ => ol.length - (intOf i).toNat)
  case atStart => exact ⟨0, Nat.zero_le _, rfl, Ext.refl _⟩
  case round =>
    obtain ⟨k, hk, rfl, hx⟩ := hrel
    have HX := Lib.hid hx
    clear hx
    by_cases hlt : k < ol.length
    · obtain ⟨b, off, p, rfl, hp, hC⟩ := (Sl.ext (Cells.stays _) HS1.out HX.out).at_ hlt
      obtain ⟨b2, off2, q, rfl, hq, hD⟩ := (Sl.ext (Cells.stays _) HS2.out HX.out).at_ hlt
      obtain rfl : p = q := by rw [hp] at hq; exact Option.some.inj hq
      have c0 : wr.cell? ⟨b, off + k * 4, none⟩ = some (.int .i64 p.a) := by simpa using hC 0 _ rfl
      have c1 : wr.cell? ⟨b, off + k * 4 + 1, none⟩ = some (.int .i64 p.b) := hC 1 _ rfl
      have c2 : wr.cell? ⟨b, off + k * 4 + 2, none⟩ = some (.int .i64 p.inn) := hC 2 _ rfl
      have c3 : wr.cell? ⟨b, off + k * 4 + 3, none⟩ = some (.int .i64 p.out) := hC 3 _ rfl
      have d0 : wr.cell? ⟨b2, off2 + k * 4, none⟩ = some (.int .i64 p.a) := by simpa using hD 0 _ rfl
      have d1 : wr.cell? ⟨b2, off2 + k * 4 + 1, none⟩ = some (.int .i64 p.b) := hD 1 _ rfl
      have d2 : wr.cell? ⟨b2, off2 + k * 4 + 2, none⟩ = some (.int .i64 p.inn) := hD 2 _ rfl
      have d3 : wr.cell? ⟨b2, off2 + k * 4 + 3, none⟩ = some (.int .i64 p.out) := hD 3 _ rfl
      have hne := fun w => neq_ov p w
      have r0 := fun (x : EW wr) => x.ext.cell c0
      have r1 := fun (x : EW wr) => x.ext.cell c1
      have r2 := fun (x : EW wr) => x.ext.cell c2
      have r3 := fun (x : EW wr) => x.ext.cell c3
      have r4 := fun (x : EW wr) => x.ext.cell d0
      have r5 := fun (x : EW wr) => x.ext.cell d1
      have r6 := fun (x : EW wr) => x.ext.cell d2
      have r7 := fun (x : EW wr) => x.ext.cell d3
      clear hC hD hp hq c0 c1 c2 c3 d0 d1 d2 d3
      go_upto_region 12 with fail
      refine wp_region_ew wr (Ext.refl _) (by kernel_rfl) (by kernel_rfl) ?_
      repeat (go_big_quiet_step (fail))
      refine wpQuiet_nil ?_
      rintro w5 ⟨⟨_, hx5⟩, rfl⟩
      try dsimp only
      have HX5 := Lib.hid (HX.out.trans hx5)
      clear r0 r1 r2 r3 r4 r5 r6 r7 hx5
      go_wp2_with fail
      exact ⟨⟨k + 1, by omega, by go_num, HX5.out⟩, by simp [intOf]; omega⟩
    · go_wp2_with fail
      go_ret
      exact ⟨rfl, HX4.out.trans HX.out⟩
end Go.Proofs.YtajbhfmdmajpmaaGreatDoor
