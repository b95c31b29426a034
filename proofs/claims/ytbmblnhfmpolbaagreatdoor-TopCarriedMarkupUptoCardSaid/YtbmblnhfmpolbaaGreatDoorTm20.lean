/- Texts laid together. -/
import Derived.Test.YtbmblnhfmpolbaaGreatDoorTm18
import Derived.Test.YtbmblnhfmpolbaaGreatDoorTm19
set_option linter.unusedVariables false
set_option linter.unusedSimpArgs false
namespace Go.Proofs.YtbmblnhfmpolbaaGreatDoor
section
theorem alwC_filter (n : ByteArray) (al l : List (ByteArray × ByteArray)) (h : (al.filter fun a => memB a.1 (alwN n)) = l) (hl : ∀ a ∈ l, a.2.size ≠ 0) : alwC n (attrsF al) = l.length := by
 unfold alwC attrsF
 rw [List.filter_filter]
 have e : (al.filter fun a => memB a.1 (alwN n) && decide (a.2.size ≠ 0)) = (al.filter fun a => memB a.1 (alwN n)).filter fun a => decide (a.2.size ≠ 0) := by
  rw [List.filter_filter]
  congr 1
  funext a
  rw [Bool.and_comm]
 rw [e, h, List.filter_eq_self.2 (fun a ha => by simpa using hl a ha)]
theorem attrsF_names {al : List (ByteArray × ByteArray)} {n : ByteArray} (h : (al.all fun a => (memB a.1 (alwN n) || memB a.1 (mayN n))) = true) : ∀ a ∈ attrsF al, memB a.1 (alwN n) = true ∨ memB a.1 (mayN n) = true := fun a ha => by
 have := List.all_eq_true.1 h a (List.mem_filter.1 ha).1
 simpa using this
theorem rName_size {r : Int} (h0 : 1 ≤ r) (h7 : r ≤ 7) : (rName r).size ≠ 0 := by
 have : r = 1 ∨ r = 2 ∨ r = 3 ∨ r = 4 ∨ r = 5 ∨ r = 6 ∨ r = 7 := by omega
 rcases this with rfl | rfl | rfl | rfl | rfl | rfl | rfl <;> decide
theorem nameB_size {s : ByteArray} (h : nameB s = true) : s.size ≠ 0 := fun e => by
 obtain rfl := empty_of_size e
 exact absurd h (by decide)
theorem alignS_size (a : Int) : (alignS a).size ≠ 0 := by unfold alignS; (repeat' split) <;> decide
theorem anchorS_size (b : Bool) : (anchorS b).size ≠ 0 := by cases b <;> decide
theorem kindS_size {k : Int} (h0 : 1 ≤ k) (h4 : k ≤ 4) : (kindS k).size ≠ 0 := by
 have : k = 1 ∨ k = 2 ∨ k = 3 ∨ k = 4 := by omega
 rcases this with rfl | rfl | rfl | rfl <;> decide
theorem frS_size (n : Int) : (frS n).size ≠ 0 := by
 unfold frS
 rw [ByteArray.size_append]
 show _ + 1 ≠ 0
 omega
theorem tt_names (d : Doc) : ∀ a ∈ attrsF (ttA d), memB a.1 (alwN sTt) = true ∨ memB a.1 (mayN sTt) = true := attrsF_names (by simp only [ttA, List.all_cons, List.all_nil]; decide)
theorem tt_count {d : Doc} (h : TmOk d) : alwC sTt (attrsF (ttA d)) = (alwN sTt).length := by
 refine alwC_filter sTt (ttA d) [(sRate, rName d.rate), (sLast, decS d.last)] (by rfl) (fun a ha => ?_)
 simp only [List.mem_cons, List.not_mem_nil, or_false] at ha
 rcases ha with rfl | rfl
 · exact rName_size h.rate.1 h.rate.2
 · exact decS_size h.last.1
theorem reg_names (r : Reg) : ∀ a ∈ attrsF (regA r), memB a.1 (alwN sRegion) = true ∨ memB a.1 (mayN sRegion) = true := attrsF_names (by simp only [regA, List.all_cons, List.all_nil]; decide)
theorem reg_count {r : Reg} (h : RegOk r) : alwC sRegion (attrsF (regA r)) = (alwN sRegion).length := by
 refine alwC_filter sRegion (regA r) (regA r) (by rfl) (fun a ha => ?_)
 simp only [regA, List.mem_cons, List.not_mem_nil, or_false] at ha
 rcases ha with rfl | rfl | rfl | rfl | rfl | rfl | rfl
 · exact nameB_size h.name
 · exact decS_size h.top.1
 · exact decS_size (by have := h.height.1; omega)
 · exact decS_size h.left.1
 · exact decS_size (by have := h.width.1; omega)
 · exact alignS_size _
 · exact anchorS_size _
theorem ev_names (e : Ev) : ∀ a ∈ attrsF (evA e), memB a.1 (alwN sP) = true ∨ memB a.1 (mayN sP) = true := attrsF_names (by simp only [evA, List.all_cons, List.all_nil]; decide)
theorem ev_count {e : Ev} (h : EvOk e) : alwC sP (attrsF (evA e)) = (alwN sP).length := by
 refine alwC_filter sP (evA e) [(sId, decS e.id), (sIn, frS e.inn), (sOut, frS e.out), (sKind, kindS e.kind)] (by rfl) (fun a ha => ?_)
 simp only [List.mem_cons, List.not_mem_nil, or_false] at ha
 rcases ha with rfl | rfl | rfl | rfl
 · exact decS_size (by have := h.id.1; omega)
 · exact frS_size _
 · exact frS_size _
 · exact kindS_size h.kind.1 h.kind.2
theorem run_names (r : Run) : ∀ a ∈ attrsF (runA r), memB a.1 (alwN sRun) = true ∨ memB a.1 (mayN sRun) = true := attrsF_names (by simp only [runA, List.all_cons, List.all_nil]; decide)
theorem run_count (r : Run) : alwC sRun (attrsF (runA r)) = (alwN sRun).length := alwC_filter sRun (runA r) [] (by rfl) (fun a ha => by simp at ha)
theorem tt_nodup (d : Doc) : ((ttA d).map (·.1)).Nodup := by simp [ttA]; decide
theorem reg_nodup (r : Reg) : ((regA r).map (·.1)).Nodup := by simp [regA]; decide
theorem ev_nodup (e : Ev) : ((evA e).map (·.1)).Nodup := by simp [evA]; decide
theorem run_nodup (r : Run) : ((runA r).map (·.1)).Nodup := by simp [runA]; decide
theorem tt_title (d : Doc) : attrV (attrsF (ttA d)) sTitle = d.title := attrV_filter (tt_nodup d) (by simp [ttA])
theorem tt_lang (d : Doc) : attrV (attrsF (ttA d)) sLang = d.lang := attrV_filter (tt_nodup d) (by simp [ttA])
theorem tt_rate (d : Doc) : attrV (attrsF (ttA d)) sRate = rName d.rate := attrV_filter (tt_nodup d) (by simp [ttA])
theorem tt_drop (d : Doc) : attrV (attrsF (ttA d)) sDrop = flagS d.drop := attrV_filter (tt_nodup d) (by simp [ttA])
theorem tt_last (d : Doc) : attrV (attrsF (ttA d)) sLast = decS d.last := attrV_filter (tt_nodup d) (by simp [ttA])
theorem reg_name (r : Reg) : attrV (attrsF (regA r)) sName = r.name := attrV_filter (reg_nodup r) (by simp [regA])
theorem reg_top (r : Reg) : attrV (attrsF (regA r)) sTop = decS r.top := attrV_filter (reg_nodup r) (by simp [regA])
theorem reg_height (r : Reg) : attrV (attrsF (regA r)) sHeight = decS r.height := attrV_filter (reg_nodup r) (by simp [regA])
theorem reg_left (r : Reg) : attrV (attrsF (regA r)) sLeft = decS r.left := attrV_filter (reg_nodup r) (by simp [regA])
theorem reg_width (r : Reg) : attrV (attrsF (regA r)) sWidth = decS r.width := attrV_filter (reg_nodup r) (by simp [regA])
theorem reg_align (r : Reg) : attrV (attrsF (regA r)) sAlign = alignS r.align := attrV_filter (reg_nodup r) (by simp [regA])
theorem reg_anchor (r : Reg) : attrV (attrsF (regA r)) sAnchor = anchorS r.bottom := attrV_filter (reg_nodup r) (by simp [regA])
theorem ev_id (e : Ev) : attrV (attrsF (evA e)) sId = decS e.id := attrV_filter (ev_nodup e) (by simp [evA])
theorem ev_in (e : Ev) : attrV (attrsF (evA e)) sIn = frS e.inn := attrV_filter (ev_nodup e) (by simp [evA])
theorem ev_out (e : Ev) : attrV (attrsF (evA e)) sOut = frS e.out := attrV_filter (ev_nodup e) (by simp [evA])
theorem ev_region (e : Ev) : attrV (attrsF (evA e)) sRegion = e.region := attrV_filter (ev_nodup e) (by simp [evA])
theorem ev_kind (e : Ev) : attrV (attrsF (evA e)) sKind = kindS e.kind := attrV_filter (ev_nodup e) (by simp [evA])
theorem ev_speaker (e : Ev) : attrV (attrsF (evA e)) sSpeaker = e.speaker := attrV_filter (ev_nodup e) (by simp [evA])
theorem run_color (r : Run) : attrV (attrsF (runA r)) sColor = colorS r.color := attrV_filter (run_nodup r) (by simp [runA])
theorem run_italic (r : Run) : attrV (attrsF (runA r)) sItalic = flagS r.italic := attrV_filter (run_nodup r) (by simp [runA])
theorem run_underline (r : Run) : attrV (attrsF (runA r)) sUnderline = flagS r.under := attrV_filter (run_nodup r) (by simp [runA])
theorem run_ruby (r : Run) : attrV (attrsF (runA r)) sRuby = r.ruby := attrV_filter (run_nodup r) (by simp [runA])
theorem attr_of_name {al : List (ByteArray × ByteArray)} (hd : (al.map (·.1)).Nodup) {s v : ByteArray} (h : (s, v) ∈ al) : ∀ a ∈ attrsF al, a.1 = s → a.2 = v ∧ v.size ≠ 0 := fun a ha hs => by
 obtain ⟨h1, h2⟩ := List.mem_filter.1 ha
 have h3 : a.2.size ≠ 0 := by simpa using h2
 have e : a = (s, v) := by
  induction al with
  | nil => simp at h
  | cons b al ih =>
   rw [List.map_cons, List.nodup_cons] at hd
   rcases List.mem_cons.1 h1 with rfl | h1'
   · rcases List.mem_cons.1 h with h | h
     · exact h.symm
     · exact (hd.1 (List.mem_map.2 ⟨(s, v), h, hs.symm⟩)).elim
   · rcases List.mem_cons.1 h with h | h
     · subst h
       exact (hd.1 (List.mem_map.2 ⟨a, h1', hs⟩)).elim
     · exact ih hd.2 h (List.mem_filter.2 ⟨h1', by simpa using h3⟩) h1'
 subst e
 exact ⟨rfl, h3⟩
theorem flag_of {al : List (ByteArray × ByteArray)} (hd : (al.map (·.1)).Nodup) {s : ByteArray} {b : Bool} (h : (s, flagS b) ∈ al) : ∀ a ∈ attrsF al, a.1 = s → a.2 = sOne := fun a ha hs => by
 obtain ⟨h1, h2⟩ := attr_of_name hd h a ha hs
 cases b
 · exact absurd rfl h2
 · exact h1
theorem run_hasC (r : Run) (h0 : 0 ≤ r.color) (h6 : r.color ≤ 6) (h : r.color ≠ 0) : ∃ a ∈ attrsF (runA r), a.1 = sColor := by
 refine ⟨(sColor, colorS r.color), List.mem_filter.2 ⟨by simp [runA], ?_⟩, rfl⟩
 have : r.color = 1 ∨ r.color = 2 ∨ r.color = 3 ∨ r.color = 4 ∨ r.color = 5 ∨ r.color = 6 := by omega
 rcases this with e | e | e | e | e | e <;> rw [e] <;> decide
end
section
open Go.RowKit
def docC (D : Doc) (vr ve : Value) : Array Value := #[.string D.title, .string D.lang, .int .u8 D.rate, .bool D.drop, .int .i64 D.last, vr, ve, .slice none 0 0]
def DocBk (w : World) (L b : Nat) (D : Doc) (K : Nat) : Prop := ∃ vr ve hs Lr, Blk w b 27 (docC D vr ve) ∧ DocBd w L D vr ve hs Lr K ∧ L ≤ b
def KpD (w w1 : World) : Prop := ∀ T : TypeId, T ≠ 27 → T ≠ 53 → T ≠ 60 → T ≠ 78 → T ≠ 83 → KB T w w1
theorem KpD.ext {w w1 : World} (h : Ext w w1) : KpD w w1 := fun _ _ _ _ _ _ => KB.ext h
theorem KpD.trans {w w1 w2 : World} (h : KpD w w1) (k : KpD w1 w2) : KpD w w2 := fun T a b c d e => (h T a b c d e).trans (k T a b c d e)
def AddPost (L b : Nat) (D : Doc) (K : Nat) (w : World) (e : Ending) (w' : World) : Prop := e = .returned (.int .i64 0) ∧ DocBk w' L b D K ∧ Below L w w' ∧ KpD w w'
set_option maxHeartbeats 8000000 in
set_option maxRecDepth 100000 in
theorem add_row (L b K : Nat) (D : Doc) (es : List Ev) (e : Ev) (tx : ByteArray) (A : Option Addr) (m c : Nat) (dep : Int) (w : World) (hD : DocBk w L b D K) (hev : D.evs = es ++ [e]) (hK : K ≤ 8192) :
 Calls Tryz.prog 34 #[.pointer (some ⟨b, 0, none⟩), .agg #[.string ⟨#[114, 111, 119]⟩, .string tx, .slice A m c, .int .i64 dep]] w (AddPost L b { D with evs := es ++ [{ e with rows := e.rows ++ [[]] }] } (K + 1) w) := by
 obtain ⟨vr, ve, hs, Lr, hB, hd, hLb⟩ := hD
 obtain ⟨ge, ce, hs0, A1, n1, c1, hx, Lx, rfl, hge, hgw, rfl, hl0, hty, hcell, hbd, hn1, hrk, hrr, hek⟩ := hd.lastE hev
 have hbw := hB.lt
 have HBn0 := Lib.hid (Blk.new w 87 #[.string ⟨#[114, 111, 119]⟩, .string tx, .slice A m c, .int .i64 dep])
 obtain ⟨W0, hW0⟩ : ∃ W0, W0 = (w.alloc (.cells #[.string ⟨#[114, 111, 119]⟩, .string tx, .slice A m c, .int .i64 dep] 87)).alloc (.cells #[.string ⟨#[114, 111, 119]⟩, .string tx, .slice A m c, .int .i64 dep, .int .i64 0] 146) := ⟨_, rfl⟩
 have HX0 : Hid (Ext w W0) := by show Ext _ _; rw [hW0]; exact ((Ext.refl w).alloc _).alloc _
 have HN0 : Hid (Blk W0 w.heap.size 87 #[.string ⟨#[114, 111, 119]⟩, .string tx, .slice A m c, .int .i64 dep]) := by show Blk _ _ _ _; rw [hW0]; exact HBn0.out.alloc _
 have HV0 : Hid (Blk W0 (w.heap.size + 1) 146 #[.string ⟨#[114, 111, 119]⟩, .string tx, .slice A m c, .int .i64 dep, .int .i64 0]) := by show Blk _ _ _ _; rw [hW0]; exact Blk.new' (by simp)
 have HB0 := Lib.hid (hB.ext HX0.out)
 have HD0 := Lib.hid (hd.ext HX0.out)
 have hcn0 := fun o => HBn0.out.cell o
 have hcb0 := fun o => ((hB.ext ((Ext.refl w).alloc (.cells #[.string ⟨#[114, 111, 119]⟩, .string tx, .slice A m c, .int .i64 dep] 87))).ext ((Ext.refl _).alloc (.cells #[.string ⟨#[114, 111, 119]⟩, .string tx, .slice A m c, .int .i64 dep, .int .i64 0] 146))).cell o
 unfold docC at hcb0 HB0
 have HW0 := Lib.hid hW0
 clear hW0
 go_enter Tryz.func34, Tryz.ntmps34
 have HTy := Lib.hid (hty.ext HX0.out)
 have HCell := Lib.hid (HX0.out.cell hcell)
 have HBd := Lib.hid (hbd.kb (KB.ext HX0.out) (KB.ext HX0.out) HX0.out.size)
 have HOw := Lib.hid HBd.out.own
 have HN := Lib.hid hn1
 have HEv := Lib.hid hev
 have HL0 := Lib.hid hl0
 have hLr := HD0.out.hi
 have hLlo := HD0.out.lo
 have h1v := own_one HOw.out
 clear hB hd hty hcell hbd hn1 hev hl0
 go_upto_region 30 with (refine wpList_loadB rfl 87 (.tmp 3) rfl w.heap.size 87 _ _ (by exact rfl) (by exact HBn0.out) Tryz.underlying87 rfl (by exact size_nodeI) ?_)
 rw [← HW0.out]
 refine wp_region_linksR [some 176, some 177, some 178, some 179, some 180, some 181, some 182, some 183, some 184, some 185, some 186, some 187, some 188, some 189, some 190, some 191, some 192, some 193, none] [[], [0], [1], [2], [], [], [5], [6], [7], [], [8, 9], [10], [11], [], [13], [12, 14], [3, 4, 0, 1, 2, 3, 4, 5, 6, 7, 8, 9, 10, 11, 12, 13, 14, 15], [16, 0, 1, 2, 3, 4, 5, 6, 7, 8, 9, 10, 11, 12, 13, 14, 15], [17, 15, 15, 0, 1, 2, 3, 4, 5, 6, 7, 8, 9, 10, 11, 12, 13, 14, 15]] [14, 15, 18] [.pointer (some ⟨b, 0, none⟩), .pointer (some ⟨b, 0, none⟩), .pointer (some ⟨b, 6, none⟩), .slice (some ⟨ge, 0, none⟩) (es.length + 1) ce, .int .i64 (es.length : Int), .pointer (some ⟨b, 0, none⟩), .pointer (some ⟨b, 0, none⟩), .pointer (some ⟨b, 6, none⟩), .slice (some ⟨ge, 0, none⟩) (es.length + 1) ce, .int .i64 (es.length : Int), .pointer (some ⟨ge, es.length * 7, none⟩), .pointer (some ⟨ge, es.length * 7 + 6, none⟩), .slice A1 n1 c1, .agg #[.slice none 0 0], undef, undef, .pointer (some ⟨ge, es.length * 7, none⟩), .pointer (some ⟨ge, es.length * 7 + 6, none⟩), undef] (ApJ 78 1 #[.slice none 0 0] Lr (.slice A1 n1 c1) e.rows.length (hx.flatMap fun h => [Hd.val h]) (⟨ge, es.length * 7 + 6, none⟩) W0) (by kernel_rfl) (by kernel_rfl) (by kernel_rfl) (by kernel_rfl) (by kernel_rfl) (by kernel_rfl) (by kernel_rfl) (by decide) ?_ ?_ ?_ ?_
 · exact ApJ.start _
 · intro i o ho hc a w' us K' hJ hF hlim hk
   match i, ho with
   | 0, ho =>
    simp only [List.getElem?_toArray, List.getElem?_cons_zero, List.getElem?_cons_succ, Option.some.injEq] at ho
    subst ho
    have e0 := hF.old 0 (.pointer (some ⟨b, 0, none⟩)) rfl rfl
    simp only [Act.eval] at e0
    clear hF hlim hJ
    go_simp
    exact hk
   | 1, ho =>
    simp only [List.getElem?_toArray, List.getElem?_cons_zero, List.getElem?_cons_succ, Option.some.injEq] at ho
    subst ho
    have e176 := hF.pure 0 176 (.pointer (some ⟨b, 0, none⟩)) rfl rfl rfl rfl
    simp only [Act.eval] at e176
    clear hF hlim hJ
    go_simp
    exact hk
   | 2, ho =>
    simp only [List.getElem?_toArray, List.getElem?_cons_zero, List.getElem?_cons_succ, Option.some.injEq] at ho
    subst ho
    have e177 := hF.pure 1 177 (.pointer (some ⟨b, 0, none⟩)) rfl rfl rfl rfl
    simp only [Act.eval] at e177
    clear hF hlim hJ
    go_simp
    exact hk
   | 3, ho =>
    simp only [List.getElem?_toArray, List.getElem?_cons_zero, List.getElem?_cons_succ, Option.some.injEq] at ho
    subst ho
    have e178 := hF.pure 2 178 (.pointer (some ⟨b, 6, none⟩)) rfl rfl rfl rfl
    have hcl := (blk_kb HB0.out (hJ.kb (hlim 2 18 rfl (by kernel_rfl)) 27 (by decide))).cell 6
    simp only [List.getElem?_toArray, List.getElem?_cons_zero, List.getElem?_cons_succ] at hcl
    simp only [Act.eval] at e178
    clear hF hlim hJ
    go_simp
    exact hk
   | 4, ho =>
    simp only [List.getElem?_toArray, List.getElem?_cons_zero, List.getElem?_cons_succ, Option.some.injEq] at ho
    subst ho
    have e6 := hF.old 6 (.int .i64 (es.length : Int)) rfl rfl
    simp only [Act.eval] at e6
    clear hF hlim hJ
    go_simp
    exact hk
   | 5, ho =>
    simp only [List.getElem?_toArray, List.getElem?_cons_zero, List.getElem?_cons_succ, Option.some.injEq] at ho
    subst ho
    have e0 := hF.old 0 (.pointer (some ⟨b, 0, none⟩)) rfl rfl
    simp only [Act.eval] at e0
    clear hF hlim hJ
    go_simp
    exact hk
   | 6, ho =>
    simp only [List.getElem?_toArray, List.getElem?_cons_zero, List.getElem?_cons_succ, Option.some.injEq] at ho
    subst ho
    have e181 := hF.pure 5 181 (.pointer (some ⟨b, 0, none⟩)) rfl rfl rfl rfl
    simp only [Act.eval] at e181
    clear hF hlim hJ
    go_simp
    exact hk
   | 7, ho =>
    simp only [List.getElem?_toArray, List.getElem?_cons_zero, List.getElem?_cons_succ, Option.some.injEq] at ho
    subst ho
    have e182 := hF.pure 6 182 (.pointer (some ⟨b, 0, none⟩)) rfl rfl rfl rfl
    simp only [Act.eval] at e182
    clear hF hlim hJ
    go_simp
    exact hk
   | 8, ho =>
    simp only [List.getElem?_toArray, List.getElem?_cons_zero, List.getElem?_cons_succ, Option.some.injEq] at ho
    subst ho
    have e183 := hF.pure 7 183 (.pointer (some ⟨b, 6, none⟩)) rfl rfl rfl rfl
    have hcl := (blk_kb HB0.out (hJ.kb (hlim 2 18 rfl (by kernel_rfl)) 27 (by decide))).cell 6
    simp only [List.getElem?_toArray, List.getElem?_cons_zero, List.getElem?_cons_succ] at hcl
    simp only [Act.eval] at e183
    clear hF hlim hJ
    go_simp
    exact hk
   | 9, ho =>
    simp only [List.getElem?_toArray, List.getElem?_cons_zero, List.getElem?_cons_succ, Option.some.injEq] at ho
    subst ho
    have e6 := hF.old 6 (.int .i64 (es.length : Int)) rfl rfl
    simp only [Act.eval] at e6
    clear hF hlim hJ
    go_simp
    exact hk
   | 10, ho =>
    simp only [List.getElem?_toArray, List.getElem?_cons_zero, List.getElem?_cons_succ, Option.some.injEq] at ho
    subst ho
    have e184 := hF.pure 8 184 (.slice (some ⟨ge, 0, none⟩) (es.length + 1) ce) rfl rfl rfl rfl
    have e185 := hF.pure 9 185 (.int .i64 (es.length : Int)) rfl rfl rfl rfl
    have hlt1 : (es.length : Int) < (es.length : Int) + 1 := by omega
    simp only [Act.eval] at e184 e185
    clear hF hlim hJ
    go_simp
    exact hk
   | 11, ho =>
    simp only [List.getElem?_toArray, List.getElem?_cons_zero, List.getElem?_cons_succ, Option.some.injEq] at ho
    subst ho
    have e186 := hF.pure 10 186 (.pointer (some ⟨ge, es.length * 7, none⟩)) rfl rfl rfl rfl
    simp only [Act.eval] at e186
    clear hF hlim hJ
    go_simp
    exact hk
   | 12, ho =>
    simp only [List.getElem?_toArray, List.getElem?_cons_zero, List.getElem?_cons_succ, Option.some.injEq] at ho
    subst ho
    have e187 := hF.pure 11 187 (.pointer (some ⟨ge, es.length * 7 + 6, none⟩)) rfl rfl rfl rfl
    have hcl := cell_kb HTy.out (hJ.kb (hlim 2 18 rfl (by kernel_rfl)) 60 (by decide)) HCell.out
    simp only [Act.eval] at e187
    clear hF hlim hJ
    go_simp
    exact hk
   | 13, ho =>
    simp only [List.getElem?_toArray, List.getElem?_cons_zero, List.getElem?_cons_succ, Option.some.injEq] at ho
    subst ho
    clear hF hlim hJ
    go_simp
    exact hk
   | 14, ho => simp at hc
   | 15, ho => simp at hc
   | 16, ho =>
    simp only [List.getElem?_toArray, List.getElem?_cons_zero, List.getElem?_cons_succ, Option.some.injEq] at ho
    subst ho
    have e179 := hF.pure 3 179 (.slice (some ⟨ge, 0, none⟩) (es.length + 1) ce) rfl rfl rfl rfl
    have e180 := hF.pure 4 180 (.int .i64 (es.length : Int)) rfl rfl rfl rfl
    have hlt1 : (es.length : Int) < (es.length : Int) + 1 := by omega
    simp only [Act.eval] at e179 e180
    clear hF hlim hJ
    go_simp
    exact hk
   | 17, ho =>
    simp only [List.getElem?_toArray, List.getElem?_cons_zero, List.getElem?_cons_succ, Option.some.injEq] at ho
    subst ho
    have e192 := hF.pure 16 192 (.pointer (some ⟨ge, es.length * 7, none⟩)) rfl rfl rfl rfl
    simp only [Act.eval] at e192
    clear hF hlim hJ
    go_simp
    exact hk
   | 18, ho => simp at hc
   | i + 19, ho => simp at ho
 · intro p c' o hp ho a w' us K' hl hJ hF hk
   match p, hp with
   | 0, hp =>
    obtain rfl : 14 = c' := by simpa using hp
    simp only [List.getElem?_toArray, List.getElem?_cons_zero, List.getElem?_cons_succ, Option.some.injEq] at ho
    subst ho
    obtain rfl : us = [] := List.eq_nil_of_length_eq_zero hl
    have e189 := hF.pure 13 189 (.agg #[.slice none 0 0]) rfl rfl rfl rfl
    have HK := Lib.hid (hk (.slice (some ⟨w'.heap.size, 0, none⟩) 1 1) (w'.alloc (.cells #[.slice none 0 0] 78)) hJ.build)
    simp [Act.eval] at e189
    clear hk hF hJ
    go_simp
    exact HK.out
   | 1, hp =>
    obtain rfl : 15 = c' := by simpa using hp
    simp only [List.getElem?_toArray, List.getElem?_cons_zero, List.getElem?_cons_succ, Option.some.injEq] at ho
    subst ho
    obtain ⟨u0, rfl⟩ := list_1 hl
    obtain ⟨⟨gu, rfl, hBu⟩, hxu⟩ := hJ.st
    have e188 := hF.pure 12 188 (.slice A1 n1 c1) rfl rfl rfl rfl
    have e190 := hF.link 0 14 190 _ rfl rfl rfl rfl
    exact wp_append1x (.tmp 188) (.tmp 190) 58 rfl info_row Tryz.underlying58 rfl (by decide) (own_ext HOw.out hxu) e188 gu _ e190 hBu rfl (by simp [Value.oneCell']) (by omega) (by simp [maxLen]; omega) (by have := hxu.size; omega) (fun v' wz hoz hgz hlz => hk v' wz (hJ.app (own_typed (own_ext HOw.out hxu)) hgz hoz))
   | 2, hp =>
    obtain rfl : 18 = c' := by simpa using hp
    simp only [List.getElem?_toArray, List.getElem?_cons_zero, List.getElem?_cons_succ, Option.some.injEq] at ho
    subst ho
    obtain ⟨u0, u1, rfl⟩ := list_2 hl
    obtain ⟨wq, hxq, hgq, hoq⟩ := hJ.st
    obtain ⟨gv, cv, rfl, -, -⟩ := own_form hoq (by omega)
    have e193 := hF.pure 17 193 (.pointer (some ⟨ge, es.length * 7 + 6, none⟩)) rfl rfl rfl rfl
    have e191 := hF.link 1 15 191 _ rfl rfl rfl rfl
    have hcl := cell_kb HTy.out (hJ.kb (by simp) 60 (by decide)) HCell.out
    have hfz := (HTy.out.kb (hJ.kb (by simp) 60 (by decide))).frozen (es.length * 7 + 6)
    have HK := Lib.hid (hk undef _ (hJ.store (u2 := undef)))
    simp [Act.eval] at e193 e191
    clear hk hF hJ
    go_simp
    exact HK.out
   | p + 3, hp => simp at hp
 intro us w9 hl hJ
 obtain ⟨u0, u1, u2, rfl⟩ := list_3 hl
 generalize hL : frameL _ _ _ _ = L
 obtain rfl : L = [(176, .pointer (some ⟨b, 0, none⟩)), (177, .pointer (some ⟨b, 0, none⟩)), (178, .pointer (some ⟨b, 6, none⟩)), (179, .slice (some ⟨ge, 0, none⟩) (es.length + 1) ce), (180, .int .i64 (es.length : Int)), (181, .pointer (some ⟨b, 0, none⟩)), (182, .pointer (some ⟨b, 0, none⟩)), (183, .pointer (some ⟨b, 6, none⟩)), (184, .slice (some ⟨ge, 0, none⟩) (es.length + 1) ce), (185, .int .i64 (es.length : Int)), (186, .pointer (some ⟨ge, es.length * 7, none⟩)), (187, .pointer (some ⟨ge, es.length * 7 + 6, none⟩)), (188, .slice A1 n1 c1), (189, .agg #[.slice none 0 0]), (190, u0), (191, u1), (192, .pointer (some ⟨ge, es.length * 7, none⟩)), (193, .pointer (some ⟨ge, es.length * 7 + 6, none⟩))] := hL.symm.trans (by kernel_rfl)
 clear hL hl
 simp only [Act.put, List.foldl_cons, List.foldl_nil, List.setIfInBounds_toArray, List.set_cons_zero, List.set_cons_succ]
 obtain ⟨w5, w6, hx5, hg6, ho6, hw9⟩ := hJ.st
 obtain ⟨gv, cv, rfl, -, -⟩ := own_form ho6 (by omega)
 have hbd5 := HBd.out.kb (KB.ext hx5) (KB.ext hx5) hx5.size
 have hty5 := own_typed hbd5.own
 have hb6 := hbd5.row (fun r hr => by have := hrr r hr; omega) hg6 ho6
 have hte6 := (HTy.out.kb (KB.ext hx5)).kb (KB.grown hg6 hty5 (show 60 ≠ 78 by decide))
 have hD6 := (HD0.out.ext hx5).setRows HEv.out HL0.out hg6.size (KB.grown hg6 hty5 (by decide)) (KB.grown hg6 hty5 (by decide)) (KBL.grown hg6 (fun q hq => own_lt hbd5.own q hq)) (KBL.kb (KB.grown hg6 hty5 (by decide))) hb6 (by omega) ⟨by simp; omega, fun r hr => by
  rcases List.mem_append.1 hr with hr | hr
  · have := hrr r hr; omega
  · rw [List.mem_singleton.1 hr]; exact Nat.zero_le _⟩
 rw [← hw9] at hD6
 have hkE : ∀ T : TypeId, T ≠ 60 → KB T w6 w9 := fun T hn => by rw [hw9]; exact KB.set (T' := 60) hte6 hn
 have HBf := Lib.hid (blk_kb (blk_kb (HB0.out.ext hx5) (KB.grown hg6 hty5 (show 27 ≠ 78 by decide))) (hkE _ (by decide)))
 have HVf := Lib.hid (blk_kb (blk_kb (HV0.out.ext hx5) (KB.grown hg6 hty5 (show 146 ≠ 78 by decide))) (hkE _ (by decide)))
 have HKf : Hid (KpD w w9) := (KpD.ext (HX0.out.trans hx5)).trans fun T h1 h2 h3 h4 h5 => (KB.grown hg6 hty5 h4).trans (hkE T h3)
 have HWf : Hid (Below L w w9) := by
  show Below L w w9
  rw [hw9]
  refine (((Below.mono (HX0.out.trans hx5) (by omega)).grown hg6 (by have := (HX0.out.trans hx5).size; omega) (fun q hq => by have := own_lt hbd5.own q hq; omega))).setCell (by omega) _
 have HDf := Lib.hid hD6
 have hcv := fun o => HVf.out.cell o
 clear hJ hx5 hg6 ho6 hw9 hbd5 hty5 hb6 hte6 hD6 hkE
 try simp only [Exit.inBlock, Exit.then]
 go_wp2_with fail
 go_ret
 exact ⟨rfl, ⟨vr, _, _, Lr, HBf.out, HDf.out, hLb⟩, HWf.out, HKf.out⟩
end
section
open Go.RowKit
theorem size_runI : (Tryz.prog.info? 83).map (·.size) = some 5 := by kernel_rfl
def StJ (W : World) (p : Addr) (u : Value) : List Value → World → Prop
 | [], w' => w' = W.drew
 | [_], w' => w' = W.drew.setCell p u
 | _, _ => False
theorem StJ.start {W : World} {p : Addr} {u : Value} : StJ W p u [] W.drew := rfl
theorem StJ.no {W w' : World} {p : Addr} {u : Value} {us : List Value} (h : StJ W p u us w') (hl : us.length ≤ 0) : us = [] ∧ w' = W.drew := by
 obtain rfl : us = [] := List.eq_nil_of_length_eq_zero (by omega)
 exact ⟨rfl, h⟩
theorem StJ.store {W w' : World} {p : Addr} {u u2 : Value} (h : StJ W p u [] w') : StJ W p u ([] ++ [u2]) (w'.setCell p u) := by
 have h' : w' = W.drew := h
 subst h'
 rfl
set_option maxHeartbeats 8000000 in
set_option maxRecDepth 100000 in
theorem add_run (L b K : Nat) (D : Doc) (es : List Ev) (e : Ev) (rs : List Row) (r : Row) (x : Run) (tx : ByteArray) (A : Option Addr) (m c : Nat) (dep : Int) (w : World) (hD : DocBk w L b D K) (hev : D.evs = es ++ [e]) (her : e.rows = rs ++ [r]) (hK : K ≤ 8192)
 (hx : RunOk x) (hat : AttrsK w A m (attrsF (runA x))) (hm : m ≤ 16) (hT : Blk w 1 84 colCx) :
 Calls Tryz.prog 34 #[.pointer (some ⟨b, 0, none⟩), .agg #[.string ⟨#[114, 117, 110]⟩, .string tx, .slice A m c, .int .i64 dep]] w (AddPost L b { D with evs := es ++ [{ e with rows := rs ++ [r ++ [{ x with text := ByteArray.empty }]] }] } (K + 1) w) := by
 obtain ⟨vr, ve, hs, Lr, hB, hd, hLb⟩ := hD
 obtain ⟨ge, ce, hs0, A1, n1, c1, hx1, Lx, rfl, hge, hgw, rfl, hl0, hty, hcell, hbd, hn1, hrk, hrr, hek⟩ := hd.lastE hev
 rw [her] at hbd hrk hrr
 obtain ⟨gr, cr, hs1, A2, c2, hv1, hgr1, hgr2, rfl, hl1, htyR, hcellR, hor⟩ := hbd.head
 injection hv1 with q1 q2 q3
 subst q1 q2 q3
 have hbw := hB.lt
 have hrl : r.length ≤ K := hrr r (by simp)
 have hrs : rs.length < K := by simp at hrk; omega
 have hc6 := hx.c6
 have hc0 := hx.c0
 have HBn0 := Lib.hid (Blk.new w 87 #[.string ⟨#[114, 117, 110]⟩, .string tx, .slice A m c, .int .i64 dep])
 obtain ⟨W0, hW0⟩ : ∃ W0, W0 = (w.alloc (.cells #[.string ⟨#[114, 117, 110]⟩, .string tx, .slice A m c, .int .i64 dep] 87)).alloc (.cells #[.string ⟨#[114, 117, 110]⟩, .string tx, .slice A m c, .int .i64 dep, .int .i64 0] 146) := ⟨_, rfl⟩
 have HX0 : Hid (Ext w W0) := by show Ext _ _; rw [hW0]; exact ((Ext.refl w).alloc _).alloc _
 have HN0 : Hid (Blk W0 w.heap.size 87 #[.string ⟨#[114, 117, 110]⟩, .string tx, .slice A m c, .int .i64 dep]) := by show Blk _ _ _ _; rw [hW0]; exact HBn0.out.alloc _
 have HV0 : Hid (Blk W0 (w.heap.size + 1) 146 #[.string ⟨#[114, 117, 110]⟩, .string tx, .slice A m c, .int .i64 dep, .int .i64 0]) := by show Blk _ _ _ _; rw [hW0]; exact Blk.new' (by simp)
 have HB0 := Lib.hid (hB.ext HX0.out)
 have HD0 := Lib.hid (hd.ext HX0.out)
 have hcn0 := fun o => HBn0.out.cell o
 have hcb0 := fun o => ((hB.ext ((Ext.refl w).alloc (.cells #[.string ⟨#[114, 117, 110]⟩, .string tx, .slice A m c, .int .i64 dep] 87))).ext ((Ext.refl _).alloc (.cells #[.string ⟨#[114, 117, 110]⟩, .string tx, .slice A m c, .int .i64 dep, .int .i64 0] 146))).cell o
 unfold docC at hcb0 HB0
 have HW0 := Lib.hid hW0
 clear hW0
 go_enter Tryz.func34, Tryz.ntmps34
 have HVl : Hid (∀ w', Ext W0 w' → VlAt w' (w.heap.size + 1) ⟨#[114, 117, 110]⟩ tx (attrsF (runA x))) := fun w' h => ⟨A, m, c, dep, HV0.out.ext h, (hat.kb (KB.ext HX0.out)).kb (KB.ext h), hm⟩
 have HTe : Hid (∀ w', Ext W0 w' → Calls Tryz.prog 62 #[.pointer (some ⟨w.heap.size + 1, 0, none⟩), .string ⟨#[114, 117, 98, 121]⟩] w' fun e w2 => e = .returned (.string x.ruby) ∧ Ext w' w2) := fun w' h => by
  have := vtext_any _ _ _ _ sRuby w' (HVl.out w' h)
  rw [run_ruby] at this
  exact this
 have HCo := Lib.hid (fun w' (h : Ext W0 w') => vcolor_ok _ _ _ _ x.color w' (HVl.out w' h) hc0 hc6 (run_color x) (fun a ha hs => (attr_of_name (run_nodup x) (s := sColor) (v := colorS x.color) (by simp [runA]) a ha hs).2) (run_hasC x hc0 hc6) (hT.ext (HX0.out.trans h)))
 have HF1 : Hid (∀ w', Ext W0 w' → Calls Tryz.prog 65 #[.pointer (some ⟨w.heap.size + 1, 0, none⟩), .string ⟨#[105, 116, 97, 108, 105, 99]⟩] w' fun e w2 => e = .returned (.bool x.italic) ∧ Ext w' w2) := fun w' h =>
  vflag_ok _ _ _ _ sItalic x.italic w' (HVl.out w' h) (run_italic x) (flag_of (b := x.italic) (run_nodup x) (by simp [runA]))
 have HF2 : Hid (∀ w', Ext W0 w' → Calls Tryz.prog 65 #[.pointer (some ⟨w.heap.size + 1, 0, none⟩), .string ⟨#[117, 110, 100, 101, 114, 108, 105, 110, 101]⟩] w' fun e w2 => e = .returned (.bool x.under) ∧ Ext w' w2) := fun w' h =>
  vflag_ok _ _ _ _ sUnderline x.under w' (HVl.out w' h) (run_underline x) (flag_of (b := x.under) (run_nodup x) (by simp [runA]))
 have HTy0 := Lib.hid (hty.ext HX0.out)
 have HCell0 := Lib.hid (HX0.out.cell hcell)
 have HTyR0 := Lib.hid (htyR.ext HX0.out)
 have HCellR0 := Lib.hid (HX0.out.cell hcellR)
 have HBd := Lib.hid (hbd.kb (KB.ext HX0.out) (KB.ext HX0.out) HX0.out.size)
 have HEv := Lib.hid hev
 have HEr := Lib.hid her
 have HOr0 := Lib.hid hor
 have HL0 := Lib.hid hl0
 have HL1 := Lib.hid hl1
 have hLr := HD0.out.hi
 have hLlo := HD0.out.lo
 have hLx := HBd.out.lo
 clear hB hd hty hcell hbd hn1 hev her hl0 hl1 htyR hcellR hor hx hat hm hT hc0 hc6
 go_wp2_with (refine wpList_loadB rfl 87 (.tmp 3) rfl w.heap.size 87 _ _ (by exact rfl) (by exact HBn0.out) Tryz.underlying87 rfl (by exact size_nodeI) ?_)
 rw [← HW0.out]
 refine (HTe.out _ (Ext.refl _)).mono ?_
 rintro e1 w1 ⟨rfl, hx2⟩
 have HX1 := Lib.hid hx2
 have HBr1 := Lib.hid (Blk.new w1 83 #[.string ⟨#[]⟩, .int .u8 0, .bool false, .bool false, .string x.ruby])
 clear hx2
 go_wp2_with fail
 have HG0 : Hid (W0.heap.size ≤ w1.heap.size) := HX1.out.size
 have HXa := Lib.hid (HX1.out.alloc (.cells #[.string ⟨#[]⟩, .int .u8 0, .bool false, .bool false, .string x.ruby] 83))
 obtain ⟨wa, hwa⟩ : ∃ wa, wa = w1.alloc (.cells #[.string ⟨#[]⟩, .int .u8 0, .bool false, .bool false, .string x.ruby] 83) := ⟨_, rfl⟩
 rw [← hwa] at HXa HBr1 ⊢
 obtain ⟨gr0, hg0⟩ : ∃ gr0, gr0 = w1.heap.size := ⟨_, rfl⟩
 rw [← hg0] at HG0 HBr1 ⊢
 clear hwa hg0 HX1
 have HBr := Lib.hid HBr1.out
 clear HBr1
 refine (HCo.out _ HXa.out).mono ?_
 rintro e1 w2 ⟨rfl, hx2⟩
 have HXw2 := Lib.hid ((HXa.out).trans hx2)
 have HBw2 := Lib.hid (HBr.out.ext hx2)
 clear hx2 HBr
 have hcr := fun o => HBw2.out.cell o
 have hfr := fun o => HBw2.out.frozen o
 have hsr := fun u => setCell_put HBw2.out 1 u
 go_wp2_with fail
 obtain ⟨w3, hw3⟩ : ∃ w3, w3 = putB w2 gr0 83 #[.string ⟨#[]⟩, .int .u8 x.color, .bool false, .bool false, .string x.ruby] := ⟨_, rfl⟩
 rw [← hw3]
 have HXw3 : Hid (Ext W0 w3) := by show Ext _ _; rw [hw3]; exact HXw2.out.put HG0.out _ _
 have HBr : Hid (Blk w3 gr0 83 #[.string ⟨#[]⟩, .int .u8 x.color, .bool false, .bool false, .string x.ruby]) := by show Blk _ _ _ _; rw [hw3]; exact HBw2.out.put _
 clear hw3 hcr hfr hsr
 refine (HF1.out _ HXw3.out).mono ?_
 rintro e2 w4 ⟨rfl, hx2⟩
 have HXw4 := Lib.hid ((HXw3.out).trans hx2)
 have HBw4 := Lib.hid (HBr.out.ext hx2)
 clear hx2 HBr
 have hcr := fun o => HBw4.out.cell o
 have hfr := fun o => HBw4.out.frozen o
 have hsr := fun u => setCell_put HBw4.out 2 u
 go_wp2_with fail
 obtain ⟨w5, hw5⟩ : ∃ w5, w5 = putB w4 gr0 83 #[.string ⟨#[]⟩, .int .u8 x.color, .bool x.italic, .bool false, .string x.ruby] := ⟨_, rfl⟩
 rw [← hw5]
 have HXw5 : Hid (Ext W0 w5) := by show Ext _ _; rw [hw5]; exact HXw4.out.put HG0.out _ _
 have HBr : Hid (Blk w5 gr0 83 #[.string ⟨#[]⟩, .int .u8 x.color, .bool x.italic, .bool false, .string x.ruby]) := by show Blk _ _ _ _; rw [hw5]; exact HBw4.out.put _
 clear hw5 hcr hfr hsr
 refine (HF2.out _ HXw5.out).mono ?_
 rintro e3 w6 ⟨rfl, hx2⟩
 have HXw6 := Lib.hid ((HXw5.out).trans hx2)
 have HBw6 := Lib.hid (HBr.out.ext hx2)
 clear hx2 HBr
 have hcr := fun o => HBw6.out.cell o
 have hfr := fun o => HBw6.out.frozen o
 have hsr := fun u => setCell_put HBw6.out 3 u
 go_upto_region 36 with fail
 obtain ⟨w8, hw8⟩ : ∃ w8, w8 = putB w6 gr0 83 #[.string ⟨#[]⟩, .int .u8 x.color, .bool x.italic, .bool x.under, .string x.ruby] := ⟨_, rfl⟩
 rw [← hw8]
 have HXw8 : Hid (Ext W0 w8) := by show Ext _ _; rw [hw8]; exact HXw6.out.put HG0.out _ _
 have HBr : Hid (Blk w8 gr0 83 #[.string ⟨#[]⟩, .int .u8 x.color, .bool x.italic, .bool x.under, .string x.ruby]) := by show Blk _ _ _ _; rw [hw8]; exact HBw6.out.put _
 clear hw8 hcr hfr hsr
 have HBb := Lib.hid (HB0.out.ext HXw8.out)
 have HCell := Lib.hid (HXw8.out.cell HCell0.out)
 have HBdw := Lib.hid (HBd.out.kb (KB.ext HXw8.out) (KB.ext HXw8.out) HXw8.out.size)
 refine wp_region_linksR [some 211, some 212, some 213, some 214, some 215, some 216, some 217, some 218, some 219, some 220, some 221, some 222, some 223, some 224, some 225, some 226, some 227, some 228, some 229, some 14] [[], [0], [1], [2], [], [3, 4], [5], [6], [], [8], [9], [10], [], [11, 12], [13], [14], [15], [16], [7, 17], [18, 0, 1, 2, 3, 4, 5, 6, 7, 8, 9, 10, 11, 12, 13, 14, 15, 16, 17, 18]] [] [.pointer (some ⟨b, 0, none⟩), .pointer (some ⟨b, 0, none⟩), .pointer (some ⟨b, 6, none⟩), .slice (some ⟨ge, 0, none⟩) (es.length + 1) ce, .int .i64 (es.length : Int), .pointer (some ⟨ge, es.length * 7, none⟩), .pointer (some ⟨ge, es.length * 7 + 6, none⟩), .slice (some ⟨gr, 0, none⟩) (rs.length + 1) c1, .pointer (some ⟨b, 0, none⟩), .pointer (some ⟨b, 0, none⟩), .pointer (some ⟨b, 6, none⟩), .slice (some ⟨ge, 0, none⟩) (es.length + 1) ce, .int .i64 (es.length : Int), .pointer (some ⟨ge, es.length * 7, none⟩), .pointer (some ⟨ge, es.length * 7 + 6, none⟩), .slice (some ⟨gr, 0, none⟩) (rs.length + 1) c1, .int .i64 ((rs.length : Int) + 1), .int .i64 (rs.length : Int), .pointer (some ⟨gr, rs.length, none⟩), .pointer (some ⟨gr, rs.length, none⟩)] (NoJ w8) (by kernel_rfl) (by kernel_rfl) (by kernel_rfl) (by kernel_rfl) (by kernel_rfl) (by kernel_rfl) (by kernel_rfl) (by decide) ?_ ?_ ?_ ?_
 · exact NoJ.start _
 · intro i o ho hc a w' us K' hJ hF hlim hk
   match i, ho with
   | 0, ho =>
    simp only [List.getElem?_toArray, List.getElem?_cons_zero, List.getElem?_cons_succ, Option.some.injEq] at ho
    subst ho
    have e0 := hF.old 0 (.pointer (some ⟨b, 0, none⟩)) rfl rfl
    simp only [Act.eval] at e0
    try clear hJ
    clear hF hlim
    go_simp
    exact hk
   | 1, ho =>
    simp only [List.getElem?_toArray, List.getElem?_cons_zero, List.getElem?_cons_succ, Option.some.injEq] at ho
    subst ho
    have e211 := hF.pure 0 211 (.pointer (some ⟨b, 0, none⟩)) rfl rfl rfl rfl
    simp only [Act.eval] at e211
    try clear hJ
    clear hF hlim
    go_simp
    exact hk
   | 2, ho =>
    simp only [List.getElem?_toArray, List.getElem?_cons_zero, List.getElem?_cons_succ, Option.some.injEq] at ho
    subst ho
    have e212 := hF.pure 1 212 (.pointer (some ⟨b, 0, none⟩)) rfl rfl rfl rfl
    simp only [Act.eval] at e212
    try clear hJ
    clear hF hlim
    go_simp
    exact hk
   | 3, ho =>
    simp only [List.getElem?_toArray, List.getElem?_cons_zero, List.getElem?_cons_succ, Option.some.injEq] at ho
    subst ho
    have e213 := hF.pure 2 213 (.pointer (some ⟨b, 6, none⟩)) rfl rfl rfl rfl
    obtain ⟨-, rfl⟩ := hJ
    have hcl := HBb.out.cell 6
    simp only [List.getElem?_toArray, List.getElem?_cons_zero, List.getElem?_cons_succ] at hcl
    simp only [Act.eval] at e213
    try clear hJ
    clear hF hlim
    go_simp
    exact hk
   | 4, ho =>
    simp only [List.getElem?_toArray, List.getElem?_cons_zero, List.getElem?_cons_succ, Option.some.injEq] at ho
    subst ho
    have e6 := hF.old 6 (.int .i64 (es.length : Int)) rfl rfl
    simp only [Act.eval] at e6
    try clear hJ
    clear hF hlim
    go_simp
    exact hk
   | 5, ho =>
    simp only [List.getElem?_toArray, List.getElem?_cons_zero, List.getElem?_cons_succ, Option.some.injEq] at ho
    subst ho
    have e214 := hF.pure 3 214 (.slice (some ⟨ge, 0, none⟩) (es.length + 1) ce) rfl rfl rfl rfl
    have e215 := hF.pure 4 215 (.int .i64 (es.length : Int)) rfl rfl rfl rfl
    have hlt1 : (es.length : Int) < (es.length : Int) + 1 := by omega
    simp only [Act.eval] at e214 e215
    try clear hJ
    clear hF hlim
    go_simp
    exact hk
   | 6, ho =>
    simp only [List.getElem?_toArray, List.getElem?_cons_zero, List.getElem?_cons_succ, Option.some.injEq] at ho
    subst ho
    have e216 := hF.pure 5 216 (.pointer (some ⟨ge, es.length * 7, none⟩)) rfl rfl rfl rfl
    simp only [Act.eval] at e216
    try clear hJ
    clear hF hlim
    go_simp
    exact hk
   | 7, ho =>
    simp only [List.getElem?_toArray, List.getElem?_cons_zero, List.getElem?_cons_succ, Option.some.injEq] at ho
    subst ho
    have e217 := hF.pure 6 217 (.pointer (some ⟨ge, es.length * 7 + 6, none⟩)) rfl rfl rfl rfl
    obtain ⟨-, rfl⟩ := hJ
    have hcl := HCell.out
    simp only [Act.eval] at e217
    try clear hJ
    clear hF hlim
    go_simp
    exact hk
   | 8, ho =>
    simp only [List.getElem?_toArray, List.getElem?_cons_zero, List.getElem?_cons_succ, Option.some.injEq] at ho
    subst ho
    have e0 := hF.old 0 (.pointer (some ⟨b, 0, none⟩)) rfl rfl
    simp only [Act.eval] at e0
    try clear hJ
    clear hF hlim
    go_simp
    exact hk
   | 9, ho =>
    simp only [List.getElem?_toArray, List.getElem?_cons_zero, List.getElem?_cons_succ, Option.some.injEq] at ho
    subst ho
    have e219 := hF.pure 8 219 (.pointer (some ⟨b, 0, none⟩)) rfl rfl rfl rfl
    simp only [Act.eval] at e219
    try clear hJ
    clear hF hlim
    go_simp
    exact hk
   | 10, ho =>
    simp only [List.getElem?_toArray, List.getElem?_cons_zero, List.getElem?_cons_succ, Option.some.injEq] at ho
    subst ho
    have e220 := hF.pure 9 220 (.pointer (some ⟨b, 0, none⟩)) rfl rfl rfl rfl
    simp only [Act.eval] at e220
    try clear hJ
    clear hF hlim
    go_simp
    exact hk
   | 11, ho =>
    simp only [List.getElem?_toArray, List.getElem?_cons_zero, List.getElem?_cons_succ, Option.some.injEq] at ho
    subst ho
    have e221 := hF.pure 10 221 (.pointer (some ⟨b, 6, none⟩)) rfl rfl rfl rfl
    obtain ⟨-, rfl⟩ := hJ
    have hcl := HBb.out.cell 6
    simp only [List.getElem?_toArray, List.getElem?_cons_zero, List.getElem?_cons_succ] at hcl
    simp only [Act.eval] at e221
    try clear hJ
    clear hF hlim
    go_simp
    exact hk
   | 12, ho =>
    simp only [List.getElem?_toArray, List.getElem?_cons_zero, List.getElem?_cons_succ, Option.some.injEq] at ho
    subst ho
    have e6 := hF.old 6 (.int .i64 (es.length : Int)) rfl rfl
    simp only [Act.eval] at e6
    try clear hJ
    clear hF hlim
    go_simp
    exact hk
   | 13, ho =>
    simp only [List.getElem?_toArray, List.getElem?_cons_zero, List.getElem?_cons_succ, Option.some.injEq] at ho
    subst ho
    have e222 := hF.pure 11 222 (.slice (some ⟨ge, 0, none⟩) (es.length + 1) ce) rfl rfl rfl rfl
    have e223 := hF.pure 12 223 (.int .i64 (es.length : Int)) rfl rfl rfl rfl
    have hlt1 : (es.length : Int) < (es.length : Int) + 1 := by omega
    simp only [Act.eval] at e222 e223
    try clear hJ
    clear hF hlim
    go_simp
    exact hk
   | 14, ho =>
    simp only [List.getElem?_toArray, List.getElem?_cons_zero, List.getElem?_cons_succ, Option.some.injEq] at ho
    subst ho
    have e224 := hF.pure 13 224 (.pointer (some ⟨ge, es.length * 7, none⟩)) rfl rfl rfl rfl
    simp only [Act.eval] at e224
    try clear hJ
    clear hF hlim
    go_simp
    exact hk
   | 15, ho =>
    simp only [List.getElem?_toArray, List.getElem?_cons_zero, List.getElem?_cons_succ, Option.some.injEq] at ho
    subst ho
    have e225 := hF.pure 14 225 (.pointer (some ⟨ge, es.length * 7 + 6, none⟩)) rfl rfl rfl rfl
    obtain ⟨-, rfl⟩ := hJ
    have hcl := HCell.out
    simp only [Act.eval] at e225
    try clear hJ
    clear hF hlim
    go_simp
    exact hk
   | 16, ho =>
    simp only [List.getElem?_toArray, List.getElem?_cons_zero, List.getElem?_cons_succ, Option.some.injEq] at ho
    subst ho
    have e226 := hF.pure 15 226 (.slice (some ⟨gr, 0, none⟩) (rs.length + 1) c1) rfl rfl rfl rfl
    simp only [Act.eval] at e226
    try clear hJ
    clear hF hlim
    go_simp
    exact hk
   | 17, ho =>
    simp only [List.getElem?_toArray, List.getElem?_cons_zero, List.getElem?_cons_succ, Option.some.injEq] at ho
    subst ho
    have e227 := hF.pure 16 227 (.int .i64 ((rs.length : Int) + 1)) rfl rfl rfl rfl
    have hwr : IntKind.i64.wrap (rs.length : Int) = (rs.length : Int) := wrap_i64 (by omega) (by omega)
    simp only [Act.eval] at e227
    try clear hJ
    clear hF hlim
    go_simp
    exact hk
   | 18, ho =>
    simp only [List.getElem?_toArray, List.getElem?_cons_zero, List.getElem?_cons_succ, Option.some.injEq] at ho
    subst ho
    have e218 := hF.pure 7 218 (.slice (some ⟨gr, 0, none⟩) (rs.length + 1) c1) rfl rfl rfl rfl
    have e228 := hF.pure 17 228 (.int .i64 (rs.length : Int)) rfl rfl rfl rfl
    have hlt2 : (rs.length : Int) < (rs.length : Int) + 1 := by omega
    simp only [Act.eval] at e218 e228
    try clear hJ
    clear hF hlim
    go_simp
    exact hk
   | 19, ho =>
    simp only [List.getElem?_toArray, List.getElem?_cons_zero, List.getElem?_cons_succ, Option.some.injEq] at ho
    subst ho
    have e229 := hF.pure 18 229 (.pointer (some ⟨gr, rs.length, none⟩)) rfl rfl rfl rfl
    simp only [Act.eval] at e229
    try clear hJ
    clear hF hlim
    go_simp
    exact hk
   | i + 20, ho => simp at ho
 · intro p c' o hp ho a w' us K' hl hJ hF hk
   match p, hp with
   | p + 0, hp => simp at hp
 intro us w8b hl hJ
 obtain rfl : us = [] := List.eq_nil_of_length_eq_zero hl
 first | (rename_i hK; refine hK _ _ ?_; clear hK) | (rename_i hK hK_1; refine hK _ _ ?_; clear hK) | (rename_i hK hK_1 hK_2; refine hK _ _ ?_; clear hK) | (rename_i hK hK_1 hK_2 hK_3; refine hK _ _ ?_; clear hK)
 generalize hL : frameL _ _ _ _ = L
 obtain rfl : L = [(211, .pointer (some ⟨b, 0, none⟩)), (212, .pointer (some ⟨b, 0, none⟩)), (213, .pointer (some ⟨b, 6, none⟩)), (214, .slice (some ⟨ge, 0, none⟩) (es.length + 1) ce), (215, .int .i64 (es.length : Int)), (216, .pointer (some ⟨ge, es.length * 7, none⟩)), (217, .pointer (some ⟨ge, es.length * 7 + 6, none⟩)), (218, .slice (some ⟨gr, 0, none⟩) (rs.length + 1) c1), (219, .pointer (some ⟨b, 0, none⟩)), (220, .pointer (some ⟨b, 0, none⟩)), (221, .pointer (some ⟨b, 6, none⟩)), (222, .slice (some ⟨ge, 0, none⟩) (es.length + 1) ce), (223, .int .i64 (es.length : Int)), (224, .pointer (some ⟨ge, es.length * 7, none⟩)), (225, .pointer (some ⟨ge, es.length * 7 + 6, none⟩)), (226, .slice (some ⟨gr, 0, none⟩) (rs.length + 1) c1), (227, .int .i64 ((rs.length : Int) + 1)), (228, .int .i64 (rs.length : Int)), (229, .pointer (some ⟨gr, rs.length, none⟩)), (14, .pointer (some ⟨gr, rs.length, none⟩))] := hL.symm.trans (by kernel_rfl)
 clear hL hl
 simp only [Act.put, List.foldl_cons, List.foldl_nil, List.setIfInBounds_toArray, List.set_cons_zero, List.set_cons_succ]
 obtain ⟨-, hw8b⟩ := hJ
 have HX8 : Hid (Ext W0 w8b) := by show Ext _ _; rw [hw8b]; exact HXw8.out.drew
 have HX8b : Hid (Ext w8 w8b) := by show Ext _ _; rw [hw8b]; exact (Ext.refl w8).drew
 have HBr8 := Lib.hid (HBr.out.ext HX8b.out)
 clear hw8b HBr
 have HBr := Lib.hid HBr8.out
 have HTyR := Lib.hid (HTyR0.out.ext HX8.out)
 have HCellR := Lib.hid (HX8.out.cell HCellR0.out)
 have HBd8 := Lib.hid (HBd.out.kb (KB.ext HX8.out) (KB.ext HX8.out) HX8.out.size)
 have HD8 := Lib.hid (HD0.out.ext HX8.out)
 have HOr := Lib.hid (own_ext HOr0.out (HX0.out.trans HX8.out))
 have hLxz := HBd8.out.hi
 clear HBr8
 refine wp_region_linksR [some 230, some 231, some 232, some 233, some 234, some 235, some 236, some 237, some 238, some 239, none] [[], [], [1], [2], [3], [], [5], [4, 6], [0, 0, 1, 2, 3, 4, 5, 6, 7], [8, 0, 1, 2, 3, 4, 5, 6, 7], [9, 7, 7, 0, 1, 2, 3, 4, 5, 6, 7]] [6, 7, 10] [.pointer (some ⟨gr, rs.length, none⟩), .pointer (some ⟨gr, rs.length, none⟩), .pointer (some ⟨gr, rs.length, none⟩), .pointer (some ⟨gr, rs.length, none⟩), .slice A2 r.length c2, .agg #[.string ⟨#[]⟩, .int .u8 x.color, .bool x.italic, .bool x.under, .string x.ruby], undef, undef, .pointer (some ⟨gr, rs.length, none⟩), .pointer (some ⟨gr, rs.length, none⟩), undef] (ApJ 83 5 #[.string ⟨#[]⟩, .int .u8 x.color, .bool x.italic, .bool x.under, .string x.ruby] Lx (.slice A2 r.length c2) r.length (r.flatMap Run.cells) (⟨gr, rs.length, none⟩) w8b) (by kernel_rfl) (by kernel_rfl) (by kernel_rfl) (by kernel_rfl) (by kernel_rfl) (by kernel_rfl) (by kernel_rfl) (by decide) ?_ ?_ ?_ ?_
 · exact ApJ.start _
 · intro i o ho hc a w' us K' hJ hF hlim hk
   match i, ho with
   | 0, ho =>
    simp only [List.getElem?_toArray, List.getElem?_cons_zero, List.getElem?_cons_succ, Option.some.injEq] at ho
    subst ho
    have e14 := hF.old 14 (.pointer (some ⟨gr, rs.length, none⟩)) rfl rfl
    simp only [Act.eval] at e14
    clear hF hlim hJ
    go_simp
    exact hk
   | 1, ho =>
    simp only [List.getElem?_toArray, List.getElem?_cons_zero, List.getElem?_cons_succ, Option.some.injEq] at ho
    subst ho
    have e14 := hF.old 14 (.pointer (some ⟨gr, rs.length, none⟩)) rfl rfl
    simp only [Act.eval] at e14
    clear hF hlim hJ
    go_simp
    exact hk
   | 2, ho =>
    simp only [List.getElem?_toArray, List.getElem?_cons_zero, List.getElem?_cons_succ, Option.some.injEq] at ho
    subst ho
    have e231 := hF.pure 1 231 (.pointer (some ⟨gr, rs.length, none⟩)) rfl rfl rfl rfl
    simp only [Act.eval] at e231
    clear hF hlim hJ
    go_simp
    exact hk
   | 3, ho =>
    simp only [List.getElem?_toArray, List.getElem?_cons_zero, List.getElem?_cons_succ, Option.some.injEq] at ho
    subst ho
    have e232 := hF.pure 2 232 (.pointer (some ⟨gr, rs.length, none⟩)) rfl rfl rfl rfl
    simp only [Act.eval] at e232
    clear hF hlim hJ
    go_simp
    exact hk
   | 4, ho =>
    simp only [List.getElem?_toArray, List.getElem?_cons_zero, List.getElem?_cons_succ, Option.some.injEq] at ho
    subst ho
    have e233 := hF.pure 3 233 (.pointer (some ⟨gr, rs.length, none⟩)) rfl rfl rfl rfl
    have hcl := cell_kb HTyR.out (hJ.kb (hlim 2 10 rfl (by kernel_rfl)) 78 (by decide)) HCellR.out
    simp only [Act.eval] at e233
    clear hF hlim hJ
    go_simp
    exact hk
   | 5, ho =>
    simp only [List.getElem?_toArray, List.getElem?_cons_zero, List.getElem?_cons_succ, Option.some.injEq] at ho
    subst ho
    have e13 := hF.old 13 (.pointer (some ⟨gr0, 0, none⟩)) rfl rfl
    obtain rfl : us = [] := List.eq_nil_of_length_eq_zero (by have := hlim 0 6 rfl (by kernel_rfl); omega)
    exact wp_loadB 83 (.tmp 13) rfl _ 83 _ _ e13 (HBr.out.ext hJ.st) Tryz.underlying83 rfl (by exact size_runI) hk
   | 6, ho => simp at hc
   | 7, ho => simp at hc
   | 8, ho =>
    simp only [List.getElem?_toArray, List.getElem?_cons_zero, List.getElem?_cons_succ, Option.some.injEq] at ho
    subst ho
    have e230 := hF.pure 0 230 (.pointer (some ⟨gr, rs.length, none⟩)) rfl rfl rfl rfl
    simp only [Act.eval] at e230
    clear hF hlim hJ
    go_simp
    exact hk
   | 9, ho =>
    simp only [List.getElem?_toArray, List.getElem?_cons_zero, List.getElem?_cons_succ, Option.some.injEq] at ho
    subst ho
    have e238 := hF.pure 8 238 (.pointer (some ⟨gr, rs.length, none⟩)) rfl rfl rfl rfl
    simp only [Act.eval] at e238
    clear hF hlim hJ
    go_simp
    exact hk
   | 10, ho => simp at hc
   | i + 11, ho => simp at ho
 · intro p c' o hp ho a w' us K' hl hJ hF hk
   match p, hp with
   | 0, hp =>
    obtain rfl : 6 = c' := by simpa using hp
    simp only [List.getElem?_toArray, List.getElem?_cons_zero, List.getElem?_cons_succ, Option.some.injEq] at ho
    subst ho
    obtain rfl : us = [] := List.eq_nil_of_length_eq_zero hl
    have e235 := hF.pure 5 235 (.agg #[.string ⟨#[]⟩, .int .u8 x.color, .bool x.italic, .bool x.under, .string x.ruby]) rfl rfl rfl rfl
    have HK := Lib.hid (hk (.slice (some ⟨w'.heap.size, 0, none⟩) 1 1) (w'.alloc (.cells #[.string ⟨#[]⟩, .int .u8 x.color, .bool x.italic, .bool x.under, .string x.ruby] 83)) hJ.build)
    simp [Act.eval] at e235
    clear hk hF hJ
    go_simp
    exact HK.out
   | 1, hp =>
    obtain rfl : 7 = c' := by simpa using hp
    simp only [List.getElem?_toArray, List.getElem?_cons_zero, List.getElem?_cons_succ, Option.some.injEq] at ho
    subst ho
    obtain ⟨u0, rfl⟩ := list_1 hl
    obtain ⟨⟨gu, rfl, hBu⟩, hxu⟩ := hJ.st
    have e234 := hF.pure 4 234 (.slice A2 r.length c2) rfl rfl rfl rfl
    have e236 := hF.link 0 6 236 _ rfl rfl rfl rfl
    exact wp_append1x (.tmp 234) (.tmp 236) 76 rfl info_run Tryz.underlying76 rfl (by decide) (own_ext HOr.out hxu) e234 gu _ e236 hBu rfl (by simp [Value.oneCell']) (by omega) (by simp [maxLen]; omega) (by have := hxu.size; omega) (fun v' wz hoz hgz hlz => hk v' wz (hJ.app (own_typed (own_ext HOr.out hxu)) hgz hoz))
   | 2, hp =>
    obtain rfl : 10 = c' := by simpa using hp
    simp only [List.getElem?_toArray, List.getElem?_cons_zero, List.getElem?_cons_succ, Option.some.injEq] at ho
    subst ho
    obtain ⟨u0, u1, rfl⟩ := list_2 hl
    obtain ⟨wq, hxq, hgq, hoq⟩ := hJ.st
    obtain ⟨gv, cv, rfl, -, -⟩ := own_form hoq (by omega)
    have e239 := hF.pure 9 239 (.pointer (some ⟨gr, rs.length, none⟩)) rfl rfl rfl rfl
    have e237 := hF.link 1 7 237 _ rfl rfl rfl rfl
    have hcl := cell_kb HTyR.out (hJ.kb (by simp) 78 (by decide)) HCellR.out
    have hfz := (HTyR.out.kb (hJ.kb (by simp) 78 (by decide))).frozen rs.length
    have HK := Lib.hid (hk undef _ (hJ.store (u2 := undef)))
    simp [Act.eval] at e239 e237
    clear hk hF hJ
    go_simp
    exact HK.out
   | p + 3, hp => simp at hp
 intro us w9 hl hJ
 obtain ⟨u0, u1, u2, rfl⟩ := list_3 hl
 generalize hL : frameL _ _ _ _ = L
 obtain rfl : L = [(230, .pointer (some ⟨gr, rs.length, none⟩)), (231, .pointer (some ⟨gr, rs.length, none⟩)), (232, .pointer (some ⟨gr, rs.length, none⟩)), (233, .pointer (some ⟨gr, rs.length, none⟩)), (234, .slice A2 r.length c2), (235, .agg #[.string ⟨#[]⟩, .int .u8 x.color, .bool x.italic, .bool x.under, .string x.ruby]), (236, u0), (237, u1), (238, .pointer (some ⟨gr, rs.length, none⟩)), (239, .pointer (some ⟨gr, rs.length, none⟩))] := hL.symm.trans (by kernel_rfl)
 clear hL hl
 simp only [Act.put, List.foldl_cons, List.foldl_nil, List.setIfInBounds_toArray, List.set_cons_zero, List.set_cons_succ]
 obtain ⟨w5, wv, hx5, hg6, ho6, hw9⟩ := hJ.st
 obtain ⟨gv, cv, rfl, -, -⟩ := own_form ho6 (by omega)
 have hor5 := own_ext HOr.out hx5
 have hty5 := own_typed hor5
 have hbd5 := HBd8.out.kb (KB.ext hx5) (KB.ext hx5) hx5.size
 have ho7 : wv.ownsRow Lx 83 5 (.slice (some ⟨gv, 0, none⟩) (r ++ [{ x with text := ByteArray.empty }]).length cv) (r ++ [{ x with text := ByteArray.empty }]).length ((r ++ [{ x with text := ByteArray.empty }]).flatMap Run.cells) := by
  rw [List.length_append, List.flatMap_append]
  exact ho6
 have hb6 := hbd5.run HL1.out hg6 ho7
 have e9 : w9 = wv.setCell ⟨gr, rs.length, none⟩ (.slice (some ⟨gv, 0, none⟩) (r ++ [{ x with text := ByteArray.empty }]).length cv) := by
  rw [hw9, List.length_append]
  rfl
 rw [← e9] at hb6
 have htr6 := (HTyR.out.kb (KB.ext hx5)).kb (KB.grown hg6 hty5 (show 78 ≠ 83 by decide))
 have hkR : ∀ T : TypeId, T ≠ 78 → KB T wv w9 := fun T hn => by rw [hw9]; exact KB.set (T' := 78) htr6 hn
 have hz9 : w5.heap.size ≤ w9.heap.size := by rw [hw9, size_setC]; exact hg6.size
 have hD6 := (HD8.out.ext hx5).keepRows (w1 := w9) HEv.out HL0.out hz9 ((KB.grown hg6 hty5 (by decide)).trans (hkR _ (by decide))) ((KB.grown hg6 hty5 (by decide)).trans (hkR _ (by decide)))
  (KBL.trans (KBL.kb (KB.grown hg6 hty5 (by decide))) (by rw [hw9]; exact KBL.set hgr1)) (KBL.trans (KBL.grown hg6 (fun q hq => by have := own_lt hor5 q hq; omega)) (KBL.kb (hkR _ (by decide)))) hb6 (by omega) ⟨by simp at hrk ⊢; omega, fun q hq => by
   rcases List.mem_append.1 hq with hq | hq
   · have := hrr q (List.mem_append_left _ hq); omega
   · rw [List.mem_singleton.1 hq]; simp; omega⟩
 have HBf := Lib.hid (blk_kb (blk_kb (HB0.out.ext (HX8.out.trans hx5)) (KB.grown hg6 hty5 (show 27 ≠ 83 by decide))) (hkR _ (by decide)))
 have HVf := Lib.hid (blk_kb (blk_kb (HV0.out.ext (HX8.out.trans hx5)) (KB.grown hg6 hty5 (show 146 ≠ 83 by decide))) (hkR _ (by decide)))
 have HKf : Hid (KpD w w9) := (KpD.ext (HX0.out.trans (HX8.out.trans hx5))).trans fun T h1 h2 h3 h4 h5 => (KB.grown hg6 hty5 h5).trans (hkR T h4)
 have HWf : Hid (Below L w w9) := by
  show Below L w w9
  have hxx := HX0.out.trans (HX8.out.trans hx5)
  rw [hw9]
  refine (((Below.mono hxx (by omega)).grown hg6 (by have := hxx.size; omega) (fun q hq => by have := own_lt hor5 q hq; omega))).setCell (show L ≤ gr by omega) _
 have HDf := Lib.hid hD6
 have hcv := fun o => HVf.out.cell o
 clear hJ hx5 hg6 ho6 hw9 hor5 hty5 hbd5 ho7 hb6 e9 htr6 hkR hz9 hD6
 try simp only [Exit.inBlock, Exit.then]
 go_wp2_with fail
 go_ret
 exact ⟨rfl, ⟨vr, _, _, Lr, HBf.out, HDf.out, hLb⟩, HWf.out, HKf.out⟩
end
end Go.Proofs.YtbmblnhfmpolbaaGreatDoor