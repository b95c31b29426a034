/- Laid together: The walk of display.Overlaps. -/
import Derived.Test.YtajbhfmdmajpmaaGreatDoorPk16
import Derived.Test.YtajbhfmdmajpmaaGreatDoorPk20
import Derived.Great.BuildSlice

/-! OvD -/
namespace Go.Proofs.YtajbhfmdmajpmaaGreatDoor
set_option linter.unusedVariables false
set_option linter.unusedSimpArgs false
open Go.RowKit
def bv (b : Bool) : List Value := [Value.bool b]
def b480 (s : List Bool) : List Value := (List.range 480).map fun i => Value.bool (s.getD i false)
theorem b480_len (s : List Bool) : (b480 s).length = 480 := by unfold b480; rw [List.length_map, List.length_range]
theorem flat_bools (l : List Bool) : l.flatMap bv = l.map Value.bool := by
  induction l with
  | nil => rfl
  | cons a l ih => rw [List.flatMap_cons, ih]; rfl
theorem b480_eq {s : List Bool} (h : s.length = 480) : s.flatMap bv = b480 s := by
  rw [flat_bools]
  apply List.ext_getElem?
  intro i
  unfold b480
  rw [List.getElem?_map, List.getElem?_map]
  by_cases hi : i < 480
  · rw [List.getElem?_range hi, List.getElem?_eq_getElem (by omega)]
    simp [List.getD_eq_getElem?_getD, List.getElem?_eq_getElem (show i < s.length by omega)]
  · rw [List.getElem?_eq_none (by omega), List.getElem?_eq_none (by rw [List.length_range]; omega)]
    rfl
theorem b480_ones (s : List Bool) : (b480 s).toArray.all (·.oneCell') = true := by
  rw [Array.all_eq_true_iff_forall_mem]
  intro v hv
  simp only [List.mem_toArray] at hv
  unfold b480 at hv
  obtain ⟨i, _, rfl⟩ := List.mem_map.1 hv
  rfl
theorem zero_set : Tryz.zeroCells76 = ((List.replicate 480 false).flatMap bv).toArray := by kernel_rfl
theorem info_set : (Tryz.prog.info? 76).map (fun i => (i.zero, i.size, i.bytes)) = some (some (.agg Tryz.zeroCells76), 480, 480) := by kernel_rfl
theorem size_set : (Tryz.prog.info? 76).map (·.size) = some 480 := by kernel_rfl
theorem zsize_set : (Value.agg Tryz.zeroCells76).cells.size = 480 := by kernel_rfl
theorem info_ov : (Tryz.prog.info? 46).map (fun i => (i.zero, i.size, i.bytes)) = some (some (.agg #[.int .i64 0, .int .i64 0, .int .i64 0, .int .i64 0]), 4, 32) := by kernel_rfl
theorem size_span2 : (Tryz.prog.info? 44).map (·.size) = some 2 := by kernel_rfl
theorem set_snoc {gs : List Gl} {k : Nat} {g : Gl} (h : gs[k]? = some g) : setOf (gs.take (k + 1)) = (setOf (gs.take k)).set g.cell.toNat true := by
  rw [take_snoc' gs k g h]
  unfold setOf
  rw [List.foldl_append]
  rfl
theorem wpList_buildOne {P : Program} {ops : Array Oper} {rest : List Oper} {o : Oper} {a : Act} {w : World} {Q : Exit → Act → World → Prop} (hg : o.guard = none) (t e : TypeId) (x : Operand) (ho : o.op = .buildSlice t 1 #[(0, x)]) (cs : List Value) {z : Value} {bytes : Nat} (hx : a.eval x = .agg cs.toArray)
    (hu : P.underlying t = some (.slice e)) (inf : (P.info? e).map (fun i => (i.zero, i.size, i.bytes)) = some (some z, cs.length, bytes)) (hpos : 0 < cs.length) (hsm : cs.length ≤ 2 ^ 24)
    (h : wpList P ops Q rest (a.put o.dst (.slice (some ⟨w.heap.size, 0, none⟩) 1 1)) (w.alloc (.cells cs.toArray e))) : wpList P ops Q (o :: rest) a w := by
  obtain ⟨i, hi, hz0, hz1, hz2⟩ := info_parts inf
  refine wpList_buildSlice hg t e 1 #[(0, x)] ho cs.toArray i z hu hi hz0 (by rw [hz1]; omega) (by rw [hz1]; omega) ?_ h
  have e1 : (#[((0 : Nat), x)].map fun (i, x) => (i, a.eval x)).toList = [(0, .agg cs.toArray)] := by simp [hx]
  rw [e1]
  have key : ∀ (l pre : List Value) (old : List Value) (k : Nat), old.length = l.length → pre.length = k → (l.zipIdx k).foldl (fun (acc : Array Value) p => acc.setIfInBounds (0 + p.2) p.1) (pre ++ old).toArray = (pre ++ l).toArray := by
    intro l
    induction l with
    | nil =>
      intro pre old k h1 h2
      obtain rfl : old = [] := List.eq_nil_of_length_eq_zero h1
      rfl
    | cons v l ih =>
      intro pre old k h1 h2
      cases old with
      | nil => simp at h1
      | cons o old =>
        rw [List.zipIdx_cons, List.foldl_cons]
        have e2 : ((pre ++ o :: old).toArray).setIfInBounds (0 + k) v = (pre ++ [v] ++ old).toArray := by
          apply Array.ext'
          simp [List.set_append, h2]
        rw [e2, ih (pre ++ [v]) old (k + 1) (by simpa using h1) (by simp [h2])]
        simp
  have hc : (Value.agg cs.toArray).cells = cs.toArray := rfl
  simp only [Instr.fill, hc, hz1, List.size_toArray, Nat.zero_mul]
  rw [if_neg (by simp)]
  have hk := key cs [] (((Array.range (1 * cs.length)).map (z.cells[· % z.cells.size]!)).toList) 0 (by simp) rfl
  simp only [List.nil_append, Array.toArray_toList] at hk
  rw [← Array.foldl_toList, Array.toList_zipIdx]
  first | done | simp only [hk]
theorem own_extB {g : Nat} {w w1 : World} {base : Nat} {e : TypeId} {size : Nat} {v : Value} {n : Nat} {xs : List Value} (h : w.ownsRow base e size v n xs) (k : ExtB g w w1) (hg : ¬ v.ownBlock = some g) : w1.ownsRow base e size v n xs := by
  refine ⟨h.1, ?_⟩
  rcases h.2 with hn | ⟨q, cap, cur, rfl, hb, hq, rest⟩
  · exact .inl hn
  · exact .inr ⟨q, cap, cur, rfl, hb, k.heap hq (fun e => hg (by rw [← e]; rfl)), rest⟩
def OvPost (err : Int) (l : List Ov) (w : World) (en : Ending) (w' : World) : Prop :=
  ∃ A c, en = .returned (.tuple #[.slice A l.length c, .int .i64 err]) ∧ Sl w' 4 (Cells Ov.vals) A l.length l ∧ l.length ≤ c ∧ Ext w w'
/-- what Overlaps returns -/
def Doc.ovl (d : Doc) : List Ov := if d.err = 0 then d.ovs else []
def setL (d : Doc) (l : List Ev) : List (List Bool) := l.map fun e => setOf (e.gls d.regs)
theorem setL_at {w : World} {L n : Nat} {d : Doc} {v : Value} {m k : Nat} {x y : Ev} (h : w.ownsRow L 76 480 v n ((setL d d.evs).flatMap b480)) (hn : 0 < n) (hx : d.evs[m]? = some x) (hy : d.evs[k]? = some y) :
    ∃ g cap, v = .slice (some ⟨g, 0, none⟩) n cap ∧ SetC w g (m * 480) (setOf (x.gls d.regs)) ∧ SetC w g (k * 480) (setOf (y.gls d.regs)) := by
  obtain ⟨A, c, rfl, hc, hm, hS, hb⟩ := own_sl (f := b480) (size := 480) b480_len (by have := h.1; rw [flatMap_len b480 480 b480_len] at this; omega) h
  obtain ⟨g, off, hA, hcell⟩ := hS.2 hn
  have h0 : off = 0 := by
    rcases h.2 with ⟨e, _⟩ | ⟨g', cap', cur, e, _⟩
    · rw [hA] at e; cases e
    · rw [hA] at e; cases e; rfl
  subst h0
  subst hA
  have key : ∀ (i : Nat) (z : Ev), d.evs[i]? = some z → SetC w g (i * 480) (setOf (z.gls d.regs)) := fun i z hz => by
    refine ⟨set_len _, fun j b hj => ?_⟩
    have hz' : (setL d d.evs)[i]? = some (setOf (z.gls d.regs)) := by unfold setL; rw [List.getElem?_map, hz]; rfl
    have hjl : j < 480 := by have := (List.getElem?_eq_some_iff.1 hj).1; rw [set_len] at this; exact this
    have := hcell i _ hz' j (.bool b) (by unfold b480; rw [List.getElem?_map, List.getElem?_range hjl]; simp [List.getD_eq_getElem?_getD, hj])
    rwa [Nat.zero_add] at this
  exact ⟨g, c, rfl, key m x hx, key k y hy⟩
def OvS1 (w1 : World) (d : Doc) (n : Nat) (v i : Value) (wr : World) : Prop :=
  ∃ k : Nat, k ≤ n ∧ i = .int .i64 k ∧ Ext w1 wr ∧ wr.ownsRow w1.heap.size 76 480 v k ((setL d (d.evs.take k)).flatMap b480)
def OvI (w3 : World) (g T : Nat) (gs : List Gl) (i : Value) (wq : World) : Prop :=
  ∃ j : Nat, j ≤ gs.length ∧ i = .int .i64 j ∧ ExtB g w3 wq ∧ BlkL bv wq g T (setOf (gs.take j))
def OvA (w2 : World) (d : Doc) (n : Nat) (v i : Value) (wr : World) : Prop :=
  ∃ k : Nat, k ≤ n ∧ i = .int .i64 k ∧ Ext w2 wr ∧ wr.ownsRow w2.heap.size 46 4 v (ovP d.ovE k).length ((ovP d.ovE k).flatMap Ov.vals)
def OvB (w2 : World) (d : Doc) (k : Nat) (v i : Value) (wr : World) : Prop :=
  ∃ m : Nat, m ≤ k ∧ i = .int .i64 m ∧ Ext w2 wr ∧ wr.ownsRow w2.heap.size 46 4 v (ovP d.ovE k ++ ovCol d.ovE k m).length ((ovP d.ovE k ++ ovCol d.ovE k m).flatMap Ov.vals)
theorem ovP_succ (E : Nat → Int × Int × List Gl) (k : Nat) : ovP E (k + 1) = ovP E k ++ ovCol E k k := by
  unfold ovP
  rw [List.range_succ, List.flatMap_append]
  simp
theorem ovCol_succ (E : Nat → Int × Int × List Gl) (j m : Nat) : ovCol E j (m + 1) = ovCol E j m ++ (ovOne E m j).toList := by
  unfold ovCol
  rw [List.range_succ, List.filterMap_append]
  congr 1
  try (cases h : ovOne E m j <;> simp [h])
theorem ovCol_len (E : Nat → Int × Int × List Gl) (j m : Nat) : (ovCol E j m).length ≤ m := by
  unfold ovCol
  exact Nat.le_trans (List.length_filterMap_le _ _) (by simp)
theorem ovP_len (E : Nat → Int × Int × List Gl) : ∀ k, k ≤ 1000 → (ovP E k).length ≤ k * 1000
  | 0, _ => by simp [ovP]
  | k + 1, h => by
    have h1 := ovP_len E k (by omega)
    have h2 := ovCol_len E k k
    rw [ovP_succ, List.length_append]
    omega
theorem ovP_bounds {E : Nat → Int × Int × List Gl} {k : Nat} (hk : k ≤ 1000) : ∀ o ∈ ovP E k, (0 ≤ o.a ∧ o.a ≤ 1000000) ∧ (0 ≤ o.b ∧ o.b ≤ 1000000) := by
  intro o ho
  obtain ⟨i, j, h1, h2, h3⟩ := ovP_mem.1 ho
  obtain ⟨e1, e2⟩ := ovOne_some h3
  omega
/-- behind the sort -/
theorem ov_final {E : Nat → Int × Int × List Gl} {n : Nat} (hn : n ≤ 1000) {l' : List OvF} (hp : l'.Perm ((ovP E n).map Ov.toF)) (hs : l'.Pairwise fun x y => ltO y x = false) : l'.map OvF.ov = ovR E n n := by
  refine ov_sorted ?_ ?_
  · have := hp.map OvF.ov
    rwa [ovs_toF (ovP_bounds hn)] at this
  · rw [List.pairwise_map]
    refine hs.imp fun {x y} h => ?_
    unfold ltO at h
    simp only [decide_eq_false_iff_not] at h
    unfold ovLt OvF.ov
    simp only
    omega
theorem OvF_post {w w0 : World} {L n c : Nat} {A : Option Addr} {l : List OvF} {l2 : List Ov} (h : w.ownsRow L 46 4 (.slice A n c) n (l.flatMap OvF.vals)) (hl : l.map OvF.ov = l2) (hx : Ext w0 w) : OvPost 0 l2 w0 (.returned (.tuple #[.slice A n c, .int .i64 0])) w := by
  have hn : l2.length = n := by
    have := h.1
    rw [flatMap_len OvF.vals 4 (fun _ => rfl)] at this
    rw [← hl, List.length_map]
    omega
  rw [← ovs_vals, hl] at h
  obtain ⟨A', c', hv, hc, _, hS, _⟩ := own_sl (f := Ov.vals) (size := 4) (fun _ => rfl) hn h
  injection hv with e1 _ e2
  subst e1; subst e2
  unfold OvPost
  rw [hn]
  exact ⟨A, c, rfl, hS, hc, hx⟩
theorem wp_alloc_span {o : Oper} {a : Act} {w : World} {K : Act → World → Prop} {Q : Exit → Act → World → Prop} (ho : o.op = .alloc 44) (h : K (a.put o.dst (.pointer (some ⟨w.heap.size, 0, none⟩))) (w.alloc (.cells #[.int .i64 0, .int .i64 0] 44))) : o.wp Tryz.prog a w K Q := by
  obtain ⟨dst, op, ty, pos, after, guard⟩ := o
  simp only at ho
  subst ho
  go_simp
  exact h
set_option maxRecDepth 100000 in
set_option maxHeartbeats 16000000 in
theorem Overlaps_any (d : Doc) (h : DocH) (w : World) (hE : Env w) (hat : DocAt w d h) (hf : DocFit d) (hrn : h.rn ≤ 9223372036854775807) (hn : h.en ≤ 1000) (hcn : h.cn ≤ 1000000) :
    Calls Tryz.prog 20 #[.agg (d.cells h)] w (OvPost d.err d.ovl w) := by
  have HEn := Lib.hid hE
  have HAt := Lib.hid hat
  have HFt := Lib.hid hf
  have HCk := Lib.hid (fun w' (hx : Ext w w') => DCheck_any d h w' (hE.ext hx) (hat.ext hx) hf hrn (by omega) (by omega))
  have HLn := Lib.hid hat.evs.len
  have V1 : Hid (d.err ≠ 0 → d.ovl = []) := fun h => by unfold Doc.ovl; rw [if_neg h]
  have V2 : Hid (d.err = 0 → d.ovl = ovR d.ovE h.en h.en) := fun h0 => by unfold Doc.ovl Doc.ovs; rw [if_pos h0, hat.evs.len]
  have HEv0 := Lib.hid (fun (h0 : d.err = 0) e (he : e ∈ d.evs) => doc_ev h0 he)
  have HMt0 := Lib.hid (fun (h0 : d.err = 0) (i j : Nat) x y (hx : d.evs[i]? = some x) (hy : d.evs[j]? = some y) => ov_meet h0 hx hy)
  clear hE hat hf hcn
  obtain ⟨ra, nr, rc, ea, en, ec, ca, nc, cc⟩ := h
  unfold Doc.cells at *
  dsimp only at *
  have HX0 := Lib.hid ((Ext.refl w).alloc (.cells #[.string d.title, .string d.lang, .int .u8 d.rate, .bool d.drop, .int .i64 d.last, .slice ra nr rc, .slice ea en ec, .slice ca nc cc] 27))
  have HB0 := Lib.hid (Blk.new w 27 #[.string d.title, .string d.lang, .int .u8 d.rate, .bool d.drop, .int .i64 d.last, .slice ra nr rc, .slice ea en ec, .slice ca nc cc])
  go_enter Tryz.func20, Tryz.ntmps20
  go_wp2_with (refine wpList_loadB rfl 27 (.tmp 1) rfl w.heap.size 27 _ _ (by exact rfl) (by exact HB0.out) Tryz.underlying27 rfl (by exact size_doc) ?_)
  refine (HCk.out _ HX0.out).mono ?_
  rintro en' w1 ⟨rfl, hx1⟩
  have HX1 := Lib.hid (HX0.out.trans hx1)
  have HB1 := Lib.hid (HB0.out.ext hx1)
  have hs1 : w.heap.size < w1.heap.size := HB1.out.lt
  clear hx1 HX0 HB0 HCk
  by_cases he : d.err = 0
  case neg =>
    have hne : (d.err != 0) = true := by simpa using he
    have HN := Lib.hid he
    clear he
    go_wp2_with fail
    go_ret2
    rw [V1.out HN.out]
    exact ⟨none, 0, rfl, Sl.nil, Nat.le_refl _, HX1.out⟩
  have HOk := Lib.hid he
  have HV2 := Lib.hid (V2.out he)
  have HEv := Lib.hid (HEv0.out he)
  have HMt := Lib.hid (HMt0.out he)
  rw [he]
  clear he V1 V2 HEv0 HMt0
  have hb6 : w1.cell? ⟨w.heap.size, 6, none⟩ = some (.slice ea en ec) := HB1.out.cell 6
  go_wp2_with fail
  clear hb6
  go_loopw [5, 25] (fun v i wr => OvS1 w1 d en v i wr) (fun _ i _ => en - (intOf i).toNat)
  case atStart => exact ⟨0, Nat.zero_le _, rfl, Ext.refl _, ⟨rfl, .inl ⟨rfl, rfl⟩⟩⟩
  case round =>
    obtain ⟨k, hk, rfl, hx, hown⟩ := hrel
    have HX := Lib.hid hx
    have HO := Lib.hid hown
    clear hx hown
    by_cases hlt : k < en
    · obtain ⟨b, off, x, A', n', c', rfl, hxx, hEx, c0, c1, c2, c3, c4, c5, c6⟩ := (HAt.out.evs.ext (HX1.out.trans HX.out)).at_ev hlt
      have HV : Hid (setL d (d.evs.take (k + 1)) = setL d (d.evs.take k) ++ [setOf (x.gls d.regs)]) := by show _ = _; unfold setL; rw [take_snoc' _ k x hxx, List.map_append]; rfl
      have hmx := List.mem_of_getElem? hxx
      have HPl := Lib.hid (fun w' (hx : Ext wr w') => Place_gls x A' n' c' ra nr rc d.regs w' (HEn.out.ext (HX1.out.trans (HX.out.trans hx))) (hEx.ext hx) ((HFt.out.evs x hmx).1.2.2) (HAt.out.regs.ext (HX1.out.trans (HX.out.trans hx))) hrn HFt.out.regs (HEv.out x hmx))
      have HGk := Lib.hid (gls_ok (HEv.out x hmx))
      have hgl : (x.gls d.regs).length ≤ 480 := gls_len (HEv.out x hmx)
      unfold Ev.cells at HPl
      unfold GlsPost at HPl
      clear hxx hEx hmx
      go_upto_region 9 with fail
      clear c0 c1 c2 c3 c4 c5 c6
      have HXr := Lib.hid (((Ext.refl wr).alloc (.cells #[.int .i64 x.id, .int .i64 x.inn, .int .i64 x.out, .string x.region, .int .u8 x.kind, .string x.speaker, .slice A' n' c'] 53)).alloc (.cells Tryz.zeroCells76 76))
      have HBe := Lib.hid ((Blk.new wr 53 #[.int .i64 x.id, .int .i64 x.inn, .int .i64 x.out, .string x.region, .int .u8 x.kind, .string x.speaker, .slice A' n' c']).alloc (.cells Tryz.zeroCells76 76))
      have HG0 := Lib.hid (Blk.new' (w := wr.alloc (.cells #[.int .i64 x.id, .int .i64 x.inn, .int .i64 x.out, .string x.region, .int .u8 x.kind, .string x.speaker, .slice A' n' c'] 53)) (g := wr.heap.size + 1) (t := 76) (cs := Tryz.zeroCells76) (by simp))
      have hzr : ((wr.alloc (.cells #[.int .i64 x.id, .int .i64 x.inn, .int .i64 x.out, .string x.region, .int .u8 x.kind, .string x.speaker, .slice A' n' c'] 53)).alloc (.cells Tryz.zeroCells76 76)).heap.size = wr.heap.size + 2 := by simp
      generalize (wr.alloc (.cells #[.int .i64 x.id, .int .i64 x.inn, .int .i64 x.out, .string x.region, .int .u8 x.kind, .string x.speaker, .slice A' n' c'] 53)).alloc (.cells Tryz.zeroCells76 76) = W1 at *
      rw [zero_set] at HG0
      have hq5 : W1.cell? ⟨w.heap.size, 5, none⟩ = some (.slice ra nr rc) := (HB1.out.ext (HX.out.trans HXr.out)).cell 5
      have hszr := HX.out.size
      go_wp2_with (refine wpList_loadB rfl 53 (.tmp 7) rfl wr.heap.size 53 _ _ (by exact rfl) (by exact HBe.out) Tryz.underlying53 rfl (by exact size_evt) ?_)
      refine (HPl.out _ HXr.out).mono ?_
      rintro en9 w3 ⟨GA, gc, rfl, hgA, hgc, hx3, hgl3⟩
      have HGA := Lib.hid hgA
      have HG3 : Hid (BlkL bv w3 (wr.heap.size + 1) 76 (List.replicate 480 false)) := Blk.ext HG0.out hx3
      have HXr3 := Lib.hid (HXr.out.trans hx3)
      have HLg : Hid (∀ ad, GA = some ad → ad.block ≠ wr.heap.size + 1) := fun ad h => by have := (hgl3 ad h).1; omega
      have HX3 := Lib.hid (HX.out.trans HXr3.out)
      have HO3 := Lib.hid (own_ext HO.out HXr3.out)
      have HOb : Hid (∀ q, u5.ownBlock = some q → q < wr.heap.size) := fun q hq => by obtain ⟨cur, hc⟩ := own_typed HO.out q hq; exact (Array.getElem?_eq_some_iff.1 hc).1
      clear hq5 hgA hx3 hgl3 HBe HG0 HXr HPl hzr HX HO HXr3
      generalize wr.heap.size = gz at *
      go_wp2_with fail
      go_loopw [34] (fun i wq => OvI w3 (gz + 1) 76 (x.gls d.regs) i wq) (fun i _ => (x.gls d.regs).length - (intOf i).toNat)
      case atStart => exact ⟨0, Nat.zero_le _, rfl, ExtB.refl _, HG3.out⟩
      case round =>
        obtain ⟨j, hj, rfl, hxq, hgq⟩ := hrel
        have HXq := Lib.hid hxq
        have HGq := Lib.hid hgq
        have HGAq : Hid (GlsAt wr GA (x.gls d.regs).length (x.gls d.regs)) := hxq.cells HGA.out HLg.out
        clear hxq hgq
        by_cases hjn : j < (x.gls d.regs).length
        · obtain ⟨gb, goff, y, rfl, hy, c0, c1, c2, c3, c4, c5⟩ := HGAq.out.at6 hjn
          have hyok := HGk.out y (List.mem_of_getElem? hy)
          obtain ⟨cy, hcc⟩ : ∃ cy : Nat, y.cell = cy := ⟨y.cell.toNat, by have := (Gl.ok_cell hyok).1; omega⟩
          have hcy : cy < 480 := by have := (Gl.ok_cell hyok).2; omega
          have HCy := Lib.hid (fun w' => Cell_any y w' ⟨hyok.1, hyok.2.1, hyok.2.2.1, hyok.2.2.2.1⟩)
          rw [hcc] at HCy
          have HSet : Hid (setOf ((x.gls d.regs).take (j + 1)) = (setOf ((x.gls d.regs).take j)).set cy true) := by show _ = _; rw [set_snoc hy, hcc]; rfl
          have HSl := Lib.hid (set_len ((x.gls d.regs).take j))
          clear hy hyok hcc
          go_upto_region 12 with fail
          clear c0 c1 c2 c3 c4 c5
          have HBy := Lib.hid (Blk.new wr 58 #[.int .i64 y.row, .int .i64 y.col, .int .i32 y.ch, .int .u8 y.color, .bool y.italic, .bool y.under])
          have HX6 := Lib.hid ((Ext.refl wr).alloc (.cells #[.int .i64 y.row, .int .i64 y.col, .int .i32 y.ch, .int .u8 y.color, .bool y.italic, .bool y.under] 58))
          have HG6 : Hid (BlkL bv (wr.alloc (.cells #[.int .i64 y.row, .int .i64 y.col, .int .i32 y.ch, .int .u8 y.color, .bool y.italic, .bool y.under] 58)) (gz + 1) 76 (setOf ((x.gls d.regs).take j))) := Blk.ext HGq.out HX6.out
          have HXq6 := Lib.hid (HXq.out.ext HX6.out)
          generalize setOf ((x.gls d.regs).take j) = ST at *
          generalize wr.alloc (.cells #[.int .i64 y.row, .int .i64 y.col, .int .i32 y.ch, .int .u8 y.color, .bool y.italic, .bool y.under] 58) = W6 at *
          generalize wr.heap.size = gy at *
          clear HX6 HXq HGq HGAq
          go_wp2_with (refine wpList_loadB rfl 58 (.tmp 10) rfl gy 58 _ _ (by exact rfl) (by exact HBy.out) Tryz.underlying58 rfl (by exact size_gl) ?_)
          refine (HCy.out _).mono ?_
          rintro en8 w5 ⟨rfl, hx5⟩
          have HG7 : Hid (BlkL bv w5 (gz + 1) 76 ST) := Blk.ext HG6.out hx5
          have HX7 := Lib.hid (HXq6.out.ext hx5)
          obtain ⟨ob, hob⟩ : ∃ ob, ST[cy]? = some ob := ⟨_, List.getElem?_eq_getElem (by rw [HSl.out]; exact hcy)⟩
          have hcell : w5.cell? ⟨gz + 1, cy, none⟩ = some (.bool ob) := by have := HG7.out.cells (f := bv) (size := 1) (fun _ => rfl) hob (j := 0) rfl; simpa using this
          have hfz : w5.frozen? ⟨gz + 1, cy, none⟩ = false := Blk.frozen HG7.out _
          have hci : (cy : Int) < 480 := by omega
          clear hx5 hob HG6 HXq6 HBy HCy
          go_wp2_with fail
          have hput : w5.setCell ⟨gz + 1, cy, none⟩ (.bool true) = putB w5 (gz + 1) 76 ((ST.set cy true).flatMap bv).toArray := by
            rw [setCell_put HG7.out]
            congr 1
            rw [flat_bools, flat_bools, List.map_set]
            simp
          rw [hput]
          exact ⟨⟨j + 1, by omega, by go_num, HX7.out.put _ _, by rw [HSet.out]; exact Blk.put HG7.out _⟩, by simp [intOf]; omega⟩
        · obtain ⟨B, hB⟩ : ∃ B, B = b480 (setOf (x.gls d.regs)) := ⟨_, rfl⟩
          have HBl : Hid (B.length = 480) := by show _ = _; rw [hB]; exact b480_len _
          have HBo : Hid (B.toArray.all (·.oneCell') = true) := by show _ = _; rw [hB]; exact b480_ones _
          have HVB : Hid ((setL d (d.evs.take (k + 1))).flatMap b480 = (setL d (d.evs.take k)).flatMap b480 ++ B) := by show _ = _; rw [HV.out, List.flatMap_append, hB]; simp
          have HS3 : Hid (Blk wr (gz + 1) 76 B.toArray) := by
            have h1 := HGq.out
            rw [List.take_of_length_le (by omega)] at h1
            unfold BlkL at h1
            rw [b480_eq (set_len _), ← hB] at h1
            exact h1
          have HXf : Hid (Ext w1 wr) := HXq.out.toExt HX3.out (by omega)
          have HOf := Lib.hid (own_extB HO3.out HXq.out (fun e => by have := HOb.out _ e; omega))
          have hsf := HXf.out.size
          have hBl := HBl.out
          clear hB HV HXq HGq HGAq HG3 HGA
          go_wp2_with (first | (refine wpList_loadB rfl 76 (.tmp 8) rfl (gz + 1) 76 _ _ (by exact rfl) (by exact HS3.out) Tryz.underlying76 rfl (by rw [List.size_toArray, HBl.out]; exact size_set) ?_) | (refine wpList_buildOne rfl 75 76 (.tmp 43) rfl B (by exact rfl) Tryz.underlying75 (by rw [HBl.out]; exact info_set) (by omega) (by omega) ?_) | (at_builtin; refine wpList_append1 rfl (.tmp 42) (.tmp 44) 75 rfl info_set Tryz.underlying75 zsize_set (by decide) (HOf.out.alloc _) (by exact rfl) wr.heap.size B.toArray (by exact rfl) (by exact Blk.new' rfl) (by simp [HBl.out]) HBo.out (by omega) (by simp [maxLen]; omega) (by simp; omega) ?_; intro v' w6 hown6 hgr))
          refine ⟨⟨k + 1, by omega, by go_num, (HXf.out.alloc _).grown hgr (fun q hq => own_lt HOf.out q hq), ?_⟩, by simp [intOf]; omega⟩
          rw [HVB.out]
          exact hown6
    · have hkn : k = en := by omega
      have HSt : Hid (wr.ownsRow w1.heap.size 76 480 u5 en ((setL d d.evs).flatMap b480)) := by
        have h1 := HO.out
        rw [List.take_of_length_le (by rw [HLn.out]; omega), hkn] at h1
        exact h1
      have HX2 := Lib.hid (HX1.out.trans HX.out)
      have HB2 := Lib.hid (HB1.out.ext HX.out)
      have hb6 : wr.cell? ⟨w.heap.size, 6, none⟩ = some (.slice ea en ec) := HB2.out.cell 6
      clear HO HX HX1 HB1 hs1
      go_wp2_with fail
      clear hb6
      generalize wr = w2 at *
      go_loopw [11, 50] (fun v i wr => OvA w2 d en v i wr) (fun _ i _ => en - (intOf i).toNat)
      case atStart => exact ⟨0, Nat.zero_le _, rfl, Ext.refl _, ⟨rfl, .inl ⟨rfl, rfl⟩⟩⟩
      case round =>
        obtain ⟨k, hk, rfl, hx, hown⟩ := hrel
        have HX := Lib.hid hx
        have HO := Lib.hid hown
        clear hx hown
        by_cases hlt : k < en
        · have hPl := ovP_len d.ovE k (by omega)
          go_wp2_with fail
          go_loopw [11, 54] (fun v i wq => OvB w2 d k v i wq) (fun _ i _ => k - (intOf i).toNat)
          case atStart => exact ⟨0, Nat.zero_le _, rfl, HX.out, by have h1 := HO.out; simpa [ovCol] using h1⟩
          case round =>
            obtain ⟨m, hm, rfl, hx, hown⟩ := hrel
            have HXq := Lib.hid hx
            have HOq := Lib.hid hown
            clear hx hown
            by_cases hmk : m < k
            · have hHe := HAt.out.evs.ext (HX2.out.trans HXq.out)
              obtain ⟨eb, eoff, x, A1, n1, c1', rfl, hxx, -, -, cx1, cx2, -⟩ := hHe.at_ev (show m < en by omega)
              obtain ⟨eb2, eoff2, y, A2, n2, c2', he2, hyy, -, -, cy1, cy2, -⟩ := hHe.at_ev hlt
              cases he2
              have hmn : m < en := by omega
              have hEx : d.ovE m = (x.inn, x.out, x.gls d.regs) := by unfold Doc.ovE; rw [hxx]; rfl
              have hEy : d.ovE k = (y.inn, y.out, y.gls d.regs) := by unfold Doc.ovE; rw [hyy]; rfl
              have HOne : Hid (ovOne d.ovE m k = if max x.inn y.inn < min x.out y.out ∧ meetB (x.gls d.regs) (y.gls d.regs) = true then some ⟨m, k, max x.inn y.inn, min x.out y.out⟩ else none) := by show _ = _; unfold ovOne; rw [hEx, hEy]
              have HMe := Lib.hid (HMt.out m k x y hxx hyy)
              have HSx : Hid (∀ (j : Nat) v, [Value.int .i64 x.inn, Value.int .i64 x.out][j]? = some v → wr.cell? ⟨eb, eoff + m * 7 + 1 + j, none⟩ = some v) := fun j v hv => by
                match j, hv with
                | 0, hv => simp at hv; subst hv; exact cx1
                | 1, hv => simp at hv; subst hv; exact cx2
                | j + 2, hv => simp at hv
              have HSy : Hid (∀ (j : Nat) v, [Value.int .i64 y.inn, Value.int .i64 y.out][j]? = some v → wr.cell? ⟨eb, eoff + k * 7 + 1 + j, none⟩ = some v) := fun j v hv => by
                match j, hv with
                | 0, hv => simp at hv; subst hv; exact cy1
                | 1, hv => simp at hv; subst hv; exact cy2
                | j + 2, hv => simp at hv
              have HCl := Lib.hid (ovCol_succ d.ovE k m)
              have hCl := ovCol_len d.ovE k m
              have HBq := Lib.hid (HB2.out.ext HXq.out)
              have HSs : Hid (∃ g cap, u5 = .slice (some ⟨g, 0, none⟩) en cap ∧ SetC wr g (m * 480) (setOf (x.gls d.regs)) ∧ SetC wr g (k * 480) (setOf (y.gls d.regs))) := setL_at (own_ext HSt.out HXq.out) (by omega) hxx hyy
              clear hHe hxx hyy hEx hEy cx1 cx2 cy1 cy2
              obtain ⟨sg, scap, rfl, hsx, hsy⟩ := HSs.out
              have HS1 := Lib.hid hsx
              have HS2 := Lib.hid hsy
              clear hsx hsy HSs
              go_upto_region 23 with fail
              refine wp_region_allocs [some 57, some 58, some 59, some 60, some 61, some 62, some 63, some 64, some 65, some 66, some 67, some 68, some 14, some 15, none, none] [[], [0], [], [1, 2], [3], [4], [], [6], [], [7, 8], [9], [10], [], [], [12, 5, 0, 1, 2, 3, 4, 5, 12, 13], [13, 11, 14, 0, 1, 2, 3, 4, 5, 6, 7, 8, 9, 10, 11, 12, 13, 14]] [14, 15] [12, 13] [.pointer (some ⟨w.heap.size, 6, none⟩), .slice (some ⟨eb, eoff, none⟩) en ec, .int .i64 (m : Int), .pointer (some ⟨eb, eoff + m * 7, none⟩), .pointer (some ⟨eb, eoff + m * 7 + 1, none⟩), .agg #[.int .i64 x.inn, .int .i64 x.out], .pointer (some ⟨w.heap.size, 6, none⟩), .slice (some ⟨eb, eoff, none⟩) en ec, .int .i64 (k : Int), .pointer (some ⟨eb, eoff + k * 7, none⟩), .pointer (some ⟨eb, eoff + k * 7 + 1, none⟩), .agg #[.int .i64 y.inn, .int .i64 y.out], undef, undef, undef, undef] (fun _ => .cells #[.int .i64 0, .int .i64 0] 44) (TwoJ 44 12 13 2 #[.int .i64 x.inn, .int .i64 x.out] #[.int .i64 y.inn, .int .i64 y.out] wr) (by kernel_rfl) (by kernel_rfl) (by kernel_rfl) (by kernel_rfl) (by kernel_rfl) (by kernel_rfl) (by kernel_rfl) (by decide) (by kernel_rfl) ?_ ?_ ?_ ?_ ?_ ?_
              · exact twoJ_start wr
              · intro i o ho ha a w' K' hk
                match i, ho with
                | 0, ho => simp at ha
                | 1, ho => simp at ha
                | 2, ho => simp at ha
                | 3, ho => simp at ha
                | 4, ho => simp at ha
                | 5, ho => simp at ha
                | 6, ho => simp at ha
                | 7, ho => simp at ha
                | 8, ho => simp at ha
                | 9, ho => simp at ha
                | 10, ho => simp at ha
                | 11, ho => simp at ha
                | 12, ho =>
                  simp only [List.getElem?_toArray, List.getElem?_cons_zero, List.getElem?_cons_succ, Option.some.injEq] at ho
                  subst ho
                  exact wp_alloc_span rfl hk
                | 13, ho =>
                  simp only [List.getElem?_toArray, List.getElem?_cons_zero, List.getElem?_cons_succ, Option.some.injEq] at ho
                  subst ho
                  exact wp_alloc_span rfl hk
                | 14, ho => simp at ha
                | 15, ho => simp at ha
                | i + 16, ho => simp at ho
              · intro i ha us gs w' hJ hn hlim
                match i, ha with
                | 0, ha => simp at ha
                | 1, ha => simp at ha
                | 2, ha => simp at ha
                | 3, ha => simp at ha
                | 4, ha => simp at ha
                | 5, ha => simp at ha
                | 6, ha => simp at ha
                | 7, ha => simp at ha
                | 8, ha => simp at ha
                | 9, ha => simp at ha
                | 10, ha => simp at ha
                | 11, ha => simp at ha
                | 12, ha => exact twoJ_p hJ (by decide) rfl (hlim 0 14 rfl rfl)
                | 13, ha => exact twoJ_q hJ (by decide) rfl (by have := hlim 1 15 rfl rfl; omega)
                | 14, ha => simp at ha
                | 15, ha => simp at ha
                | i + 16, ha => simp at ha
              · intro i o ho hc ha a w' us gs K' hJ hF hlim hk
                match i, ho with
                | 0, ho =>
                  simp only [List.getElem?_toArray, List.getElem?_cons_zero, List.getElem?_cons_succ, Option.some.injEq] at ho
                  subst ho
                  have e1 := hF.old 1 (.pointer (some ⟨w.heap.size, 0, none⟩)) rfl rfl
                  simp only [Act.eval] at e1
                  clear hF hlim hJ
                  go_simp
                  exact hk
                | 1, ho =>
                  simp only [List.getElem?_toArray, List.getElem?_cons_zero, List.getElem?_cons_succ, Option.some.injEq] at ho
                  subst ho
                  have e57 := hF.pure 0 57 (.pointer (some ⟨w.heap.size, 6, none⟩)) rfl rfl rfl rfl rfl
                  have hcl := (HBq.out.ext hJ.ext).cell 6
                  simp only [Act.eval] at e57
                  clear hF hlim hJ
                  go_simp
                  exact hk
                | 2, ho =>
                  simp only [List.getElem?_toArray, List.getElem?_cons_zero, List.getElem?_cons_succ, Option.some.injEq] at ho
                  subst ho
                  have e13 := hF.old 13 (.int .i64 (m : Int)) rfl rfl
                  simp only [Act.eval] at e13
                  clear hF hlim hJ
                  go_simp
                  exact hk
                | 3, ho =>
                  simp only [List.getElem?_toArray, List.getElem?_cons_zero, List.getElem?_cons_succ, Option.some.injEq] at ho
                  subst ho
                  have e58 := hF.pure 1 58 (.slice (some ⟨eb, eoff, none⟩) en ec) rfl rfl rfl rfl rfl
                  have e59 := hF.pure 2 59 (.int .i64 (m : Int)) rfl rfl rfl rfl rfl
                  simp only [Act.eval] at e58 e59
                  clear hF hlim hJ
                  go_simp
                  exact hk
                | 4, ho =>
                  simp only [List.getElem?_toArray, List.getElem?_cons_zero, List.getElem?_cons_succ, Option.some.injEq] at ho
                  subst ho
                  have e60 := hF.pure 3 60 (.pointer (some ⟨eb, eoff + m * 7, none⟩)) rfl rfl rfl rfl rfl
                  simp only [Act.eval] at e60
                  clear hF hlim hJ
                  go_simp
                  exact hk
                | 5, ho =>
                  simp only [List.getElem?_toArray, List.getElem?_cons_zero, List.getElem?_cons_succ, Option.some.injEq] at ho
                  subst ho
                  have e61 := hF.pure 4 61 (.pointer (some ⟨eb, eoff + m * 7 + 1, none⟩)) rfl rfl rfl rfl rfl
                  exact wp_load_mid 44 (.tmp 61) rfl eb (eoff + m * 7 + 1) e61 [.int .i64 x.inn, .int .i64 x.out] _ (fun j v hv => hJ.ext.cell (HSx.out j v hv)) Tryz.underlying44 rfl (by exact size_span2) hk
                | 6, ho =>
                  simp only [List.getElem?_toArray, List.getElem?_cons_zero, List.getElem?_cons_succ, Option.some.injEq] at ho
                  subst ho
                  have e1 := hF.old 1 (.pointer (some ⟨w.heap.size, 0, none⟩)) rfl rfl
                  simp only [Act.eval] at e1
                  clear hF hlim hJ
                  go_simp
                  exact hk
                | 7, ho =>
                  simp only [List.getElem?_toArray, List.getElem?_cons_zero, List.getElem?_cons_succ, Option.some.injEq] at ho
                  subst ho
                  have e63 := hF.pure 6 63 (.pointer (some ⟨w.heap.size, 6, none⟩)) rfl rfl rfl rfl rfl
                  have hcl := (HBq.out.ext hJ.ext).cell 6
                  simp only [Act.eval] at e63
                  clear hF hlim hJ
                  go_simp
                  exact hk
                | 8, ho =>
                  simp only [List.getElem?_toArray, List.getElem?_cons_zero, List.getElem?_cons_succ, Option.some.injEq] at ho
                  subst ho
                  have e12 := hF.old 12 (.int .i64 (k : Int)) rfl rfl
                  simp only [Act.eval] at e12
                  clear hF hlim hJ
                  go_simp
                  exact hk
                | 9, ho =>
                  simp only [List.getElem?_toArray, List.getElem?_cons_zero, List.getElem?_cons_succ, Option.some.injEq] at ho
                  subst ho
                  have e64 := hF.pure 7 64 (.slice (some ⟨eb, eoff, none⟩) en ec) rfl rfl rfl rfl rfl
                  have e65 := hF.pure 8 65 (.int .i64 (k : Int)) rfl rfl rfl rfl rfl
                  simp only [Act.eval] at e64 e65
                  clear hF hlim hJ
                  go_simp
                  exact hk
                | 10, ho =>
                  simp only [List.getElem?_toArray, List.getElem?_cons_zero, List.getElem?_cons_succ, Option.some.injEq] at ho
                  subst ho
                  have e66 := hF.pure 9 66 (.pointer (some ⟨eb, eoff + k * 7, none⟩)) rfl rfl rfl rfl rfl
                  simp only [Act.eval] at e66
                  clear hF hlim hJ
                  go_simp
                  exact hk
                | 11, ho =>
                  simp only [List.getElem?_toArray, List.getElem?_cons_zero, List.getElem?_cons_succ, Option.some.injEq] at ho
                  subst ho
                  have e67 := hF.pure 10 67 (.pointer (some ⟨eb, eoff + k * 7 + 1, none⟩)) rfl rfl rfl rfl rfl
                  exact wp_load_mid 44 (.tmp 67) rfl eb (eoff + k * 7 + 1) e67 [.int .i64 y.inn, .int .i64 y.out] _ (fun j v hv => hJ.ext.cell (HSy.out j v hv)) Tryz.underlying44 rfl (by exact size_span2) hk
                | 12, ho => simp at ha
                | 13, ho => simp at ha
                | 14, ho => simp at hc
                | 15, ho => simp at hc
                | i + 16, ho => simp at ho
              · intro p c' o hp ho a w' us gs K' hl hJ hF hk
                match p, hp with
                | 0, hp =>
                  obtain rfl : 14 = c' := by simpa using hp
                  simp only [List.getElem?_toArray, List.getElem?_cons_zero, List.getElem?_cons_succ, Option.some.injEq] at ho
                  subst ho
                  obtain rfl : us = [] := List.eq_nil_of_length_eq_zero hl
                  obtain ⟨g14, hg14, e14⟩ := hF.ptr 12 14 rfl rfl rfl rfl
                  have e62 := hF.pure 5 62 (.agg #[.int .i64 x.inn, .int .i64 x.out]) rfl rfl rfl rfl rfl
                  obtain ⟨h1, cs, h2, h3, h4⟩ := hJ.va g14 hg14
                  exact wp_storeB 44 (.tmp 14) (.tmp 62) rfl g14 44 _ _ e14 e62 (by exact size_span2) (by simp [Value.oneCell']) h3 h2 (hk undef _ (twoJ_a hJ hg14 rfl h3))
                | 1, hp =>
                  obtain rfl : 15 = c' := by simpa using hp
                  simp only [List.getElem?_toArray, List.getElem?_cons_zero, List.getElem?_cons_succ, Option.some.injEq] at ho
                  subst ho
                  obtain ⟨u0, rfl⟩ := list_1 hl
                  obtain ⟨g15, hg15, e15⟩ := hF.ptr 13 15 rfl rfl rfl rfl
                  have e68 := hF.pure 11 68 (.agg #[.int .i64 y.inn, .int .i64 y.out]) rfl rfl rfl rfl rfl
                  obtain ⟨h1, cs, h2, h3, h4⟩ := hJ.vb g15 hg15
                  exact wp_storeB 44 (.tmp 15) (.tmp 68) rfl g15 44 _ _ e15 e68 (by exact size_span2) (by simp [Value.oneCell']) h3 h2 (hk undef _ (twoJ_b hJ hg15 rfl h3))
                | p + 2, hp => simp at hp
              intro us gs w4 hl hgs hJ
              obtain ⟨u0, u1, rfl⟩ := list_2 hl
              obtain ⟨g12, hg12⟩ := Option.isSome_iff_exists.1 (hgs 12 rfl)
              obtain ⟨g13, hg13⟩ := Option.isSome_iff_exists.1 (hgs 13 rfl)
              first | (rename_i hK; refine hK _ _ ?_; clear hK) | (rename_i hK hK_1; refine hK _ _ ?_; clear hK) | (rename_i hK hK_1 hK_2; refine hK _ _ ?_; clear hK) | (rename_i hK hK_1 hK_2 hK_3; refine hK _ _ ?_; clear hK)
              generalize hL : frameA _ _ _ _ _ _ = L
              obtain rfl : L = [(57, .pointer (some ⟨w.heap.size, 6, none⟩)), (58, .slice (some ⟨eb, eoff, none⟩) en ec), (59, .int .i64 (m : Int)), (60, .pointer (some ⟨eb, eoff + m * 7, none⟩)), (61, .pointer (some ⟨eb, eoff + m * 7 + 1, none⟩)), (62, .agg #[.int .i64 x.inn, .int .i64 x.out]), (63, .pointer (some ⟨w.heap.size, 6, none⟩)), (64, .slice (some ⟨eb, eoff, none⟩) en ec), (65, .int .i64 (k : Int)), (66, .pointer (some ⟨eb, eoff + k * 7, none⟩)), (67, .pointer (some ⟨eb, eoff + k * 7 + 1, none⟩)), (68, .agg #[.int .i64 y.inn, .int .i64 y.out]), (14, .pointer ((gs 12).map fun g => ⟨g, 0, none⟩)), (15, .pointer ((gs 13).map fun g => ⟨g, 0, none⟩))] := hL.symm.trans (by kernel_rfl)
              rw [hg12, hg13]
              clear hL hl
              simp only [Act.put, Option.map_some, List.foldl_cons, List.foldl_nil, List.setIfInBounds_toArray, List.set_cons_zero, List.set_cons_succ]
              obtain ⟨ga, gb, hga, hgb, hja, hjb, hjn, hBa, hBb⟩ := hJ.end_ (fun j hj => hgs j (by rcases hj with rfl | rfl <;> rfl))
              rw [hg12] at hga
              rw [hg13] at hgb
              cases hga
              cases hgb
              have HX4 := Lib.hid (HXq.out.trans hJ.ext)
              have HO4 := Lib.hid (own_ext HOq.out hJ.ext)
              have HS14 := Lib.hid (HS1.out.ext hJ.ext)
              have HS24 := Lib.hid (HS2.out.ext hJ.ext)
              have ha0 : w4.cell? ⟨g12, 0, none⟩ = some (.int .i64 x.inn) := hBa.cell 0
              have ha1 : w4.cell? ⟨g12, 1, none⟩ = some (.int .i64 x.out) := hBa.cell 1
              have hb0 : w4.cell? ⟨g13, 0, none⟩ = some (.int .i64 y.inn) := hBb.cell 0
              have hb1 : w4.cell? ⟨g13, 1, none⟩ = some (.int .i64 y.out) := hBb.cell 1
              clear hJ hBa hBb hgs hg12 hg13 HXq HOq HS1 HS2 HBq HSx HSy hja hjb hjn
              go_upto_region 25 with fail
              have HX5 := Lib.hid (HX4.out.alloc (.cells #[.int .i64 (max x.inn y.inn), .int .i64 (min x.out y.out)] 44))
              have HBs := Lib.hid (Blk.new w4 44 #[.int .i64 (max x.inn y.inn), .int .i64 (min x.out y.out)])
              have HO5 := Lib.hid (HO4.out.alloc (.cells #[.int .i64 (max x.inn y.inn), .int .i64 (min x.out y.out)] 44))
              have HS15 := Lib.hid (HS14.out.ext ((Ext.refl w4).alloc (.cells #[.int .i64 (max x.inn y.inn), .int .i64 (min x.out y.out)] 44)))
              have HS25 := Lib.hid (HS24.out.ext ((Ext.refl w4).alloc (.cells #[.int .i64 (max x.inn y.inn), .int .i64 (min x.out y.out)] 44)))
              generalize w4.alloc (.cells #[.int .i64 (max x.inn y.inn), .int .i64 (min x.out y.out)] 44) = w5 at *
              generalize w4.heap.size = g16 at *
              clear ha0 ha1 hb0 hb1 HX4 HO4 HS14 HS24
              generalize max x.inn y.inn = si at *
              generalize min x.out y.out = so at *
              have hq := fun w' (hx : Ext w5 w') => Meet_any sg (m * 480) sg (k * 480) (setOf (x.gls d.regs)) (setOf (y.gls d.regs)) w' (HS15.out.ext hx) (HS25.out.ext hx)
              simp only [HMe.out] at hq
              have hr1 := fun (z : EW w5) (o : Nat) => (HBs.out.ext z.ext).cell o
              have hlb : (ovP d.ovE k ++ ovCol d.ovE k m).length ≤ 1001000 := by rw [List.length_append]; omega
              by_cases hsp : si < so
              · cases hme : meetB (x.gls d.regs) (y.gls d.regs) with
                | true =>
                  have HON : Hid (ovOne d.ovE m k = some ⟨m, k, si, so⟩) := by show _ = _; rw [HOne.out, if_pos ⟨hsp, hme⟩]
                  simp only [hme] at hq
                  have HMc := Lib.hid hq
                  clear hq hme HOne HMe
                  refine wp_region_ew w5 (Ext.refl _) (by kernel_rfl) (by kernel_rfl) ?_
                  repeat (go_big_quiet_step ((go_at_call 42; with_reducible exact EW.calls _ (HMc.out _ (EW.ext _)))))
                  refine wpQuiet_nil ?_
                  rintro w6 ⟨⟨_, hx6⟩, rfl⟩
                  try dsimp only
                  have HX6 := Lib.hid (HX5.out.trans hx6)
                  have HO6 := Lib.hid (own_ext HO5.out hx6)
                  have HB6 := Lib.hid (HBs.out.ext hx6)
                  have hz6 := HX6.out.size
                  clear hr1 hx6 HX5 HO5 HBs HMc HS15 HS25
                  go_wp2_with (first | (refine wpList_loadB rfl 44 (.tmp 16) rfl g16 44 _ _ (by exact rfl) (by exact HB6.out) Tryz.underlying44 rfl (by exact size_span2) ?_) | (at_builtin; refine wpList_append1 rfl (.tmp 94) (.tmp 99) 40 rfl info_ov Tryz.underlying40 rfl (by decide) (HO6.out.alloc _) (by exact rfl) w6.heap.size _ (by exact rfl) (by exact Blk.new' rfl) (by exact rfl) (by simp [Value.oneCell']) (by omega) (by simp [maxLen]; omega) (by simp; omega) ?_; intro v' w7 hown7 hgr))
                  refine ⟨⟨v', _, _, _, _, .int .i64 ((m : Int) + 1), ⟨m + 1, by omega, by go_num, (HX6.out.alloc _).grown hgr (fun q hq => own_lt HO6.out q hq), ?_⟩, rfl, rfl, rfl, rfl, rfl, rfl⟩, by simp [intOf]; omega⟩
                  rw [HCl.out, HON.out, Option.toList_some, ← List.append_assoc, List.length_append, List.flatMap_append]
                  exact hown7
                | false =>
                  have HON : Hid (ovOne d.ovE m k = none) := by show _ = _; rw [HOne.out, if_neg (by rw [hme]; simp)]
                  simp only [hme] at hq
                  have HMc := Lib.hid hq
                  clear hq hme HOne HMe
                  refine wp_region_ew w5 (Ext.refl _) (by kernel_rfl) (by kernel_rfl) ?_
                  repeat (go_big_quiet_step ((go_at_call 42; with_reducible exact EW.calls _ (HMc.out _ (EW.ext _)))))
                  refine wpQuiet_nil ?_
                  rintro w6 ⟨⟨_, hx6⟩, rfl⟩
                  try dsimp only
                  have HX6 := Lib.hid (HX5.out.trans hx6)
                  have HO6 := Lib.hid (own_ext HO5.out hx6)
                  clear hr1 hx6 HX5 HO5 HBs HMc HS15 HS25
                  go_wp2_with fail
                  exact ⟨⟨m + 1, by omega, by go_num, HX6.out, by rw [HCl.out, HON.out, Option.toList_none, List.append_nil]; exact HO6.out⟩, by simp [intOf]; omega⟩
              · have HON : Hid (ovOne d.ovE m k = none) := by show _ = _; rw [HOne.out, if_neg (fun h => hsp h.1)]
                clear hq
                refine wp_region_ew w5 (Ext.refl _) (by kernel_rfl) (by kernel_rfl) ?_
                repeat (go_big_quiet_step (fail))
                refine wpQuiet_nil ?_
                rintro w6 ⟨⟨_, hx6⟩, rfl⟩
                try dsimp only
                have HX6 := Lib.hid (HX5.out.trans hx6)
                have HO6 := Lib.hid (own_ext HO5.out hx6)
                clear hr1 hx6 HX5 HO5 HBs HS15 HS25
                go_wp2_with fail
                exact ⟨⟨m + 1, by omega, by go_num, HX6.out, by rw [HCl.out, HON.out, Option.toList_none, List.append_nil]; exact HO6.out⟩, by simp [intOf]; omega⟩
            · have hmk2 : m = k := by omega
              have HOc : Hid (wr.ownsRow w2.heap.size 46 4 u11 (ovP d.ovE (k + 1)).length ((ovP d.ovE (k + 1)).flatMap Ov.vals)) := by
                have h1 := HOq.out
                rw [hmk2] at h1
                rw [ovP_succ]
                exact h1
              clear HOq
              go_wp2_with fail
              exact ⟨⟨k + 1, by omega, by go_num, HXq.out, HOc.out⟩, by simp [intOf]; omega⟩
        · have hkn2 : k = en := by omega
          have HF : Hid (wr.ownsRow w2.heap.size 46 4 u11 ((ovP d.ovE en).map Ov.toF).length (((ovP d.ovE en).map Ov.toF).flatMap OvF.vals)) := by
            have h1 := HO.out
            rw [hkn2] at h1
            rw [← ovs_vals, ovs_toF (ovP_bounds hn), List.length_map]
            exact h1
          have hFl : ((ovP d.ovE en).map Ov.toF).length ≤ 1000000 := by rw [List.length_map]; have := ovP_len d.ovE en hn; omega
          have HXw := Lib.hid (HX2.out.trans HX.out)
          have hfin := Lib.hid (fun l' => @ov_final d.ovE en hn l')
          have HX2b := Lib.hid HX2.out
          clear HO HX2
          generalize (ovP d.ovE en).map Ov.toF = F at *
          rcases Classical.em (u11 = .slice none 0 0) with hv | hv
          · subst hv
            have hk0 : F.length = 0 := by
              rcases HF.out.2 with ⟨_, h0⟩ | ⟨g, cap, cur, h0, _⟩
              · exact h0
              · cases h0
            have hF0 := List.eq_nil_of_length_eq_zero hk0
            subst hF0
            have HN : Hid ([] = ovR d.ovE en en) := hfin.out [] (List.Perm.refl _) (by simp)
            clear HF hk0 hfin
            go_wp2_with fail
            refine (SortNoneO _ _).mono ?_
            rintro en8 w8 ⟨rfl, rfl⟩
            go_wp2_with fail
            go_ret2
            rw [HV2.out, HOk.out, ← HN.out]
            exact ⟨none, 0, rfl, Sl.nil, Nat.le_refl _, HXw.out⟩
          · obtain ⟨g, cap, rfl⟩ : ∃ g cap, u11 = .slice (some ⟨g, 0, none⟩) F.length cap := by
              rcases HF.out.2 with ⟨e0, _⟩ | ⟨g, cap, cur, e0, _⟩
              · exact absurd e0 hv
              · exact ⟨g, cap, e0⟩
            have hsort := SortO_own (w0 := w2) HX.out (Nat.le_refl _) HF.out rfl (by omega)
            clear hv
            go_wp2_with fail
            refine hsort.mono ?_
            rintro en8 w8 ⟨rfl, hx8, l', hperm, hsrt, hown8⟩
            have HL := Lib.hid (hfin.out l' hperm hsrt)
            have HO8 := Lib.hid hown8
            have HX8 : Hid (Ext w w8) := HX2b.out.trans hx8
            clear hown8 hperm hsrt hx8 hsort hfin HF
            go_wp2_with fail
            go_ret2
            rw [HV2.out, HOk.out]
            exact OvF_post HO8.out HL.out HX8.out
end Go.Proofs.YtajbhfmdmajpmaaGreatDoor
