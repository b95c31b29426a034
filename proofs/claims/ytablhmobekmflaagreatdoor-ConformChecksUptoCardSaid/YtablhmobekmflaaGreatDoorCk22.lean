/- Texts laid together. -/
import Derived.Test.YtablhmobekmflaaGreatDoorCk21
import Derived.Test.YtablhmobekmflaaGreatDoorCk13
import Derived.Test.YtablhmobekmflaaGreatDoorCk20
import Derived.Test.YtablhmobekmflaaGreatDoorCk14
import Derived.Test.YtablhmobekmflaaGreatDoorCk11
import Derived.Test.YtablhmobekmflaaGreatDoorCk12
set_option linter.unusedVariables false
set_option linter.unusedSimpArgs false
namespace Go.Proofs.YtablhmobekmflaaGreatDoor
section
open Go.RowKit Go.Maps
theorem own_same {w w1 : World} {L size n : Nat} {T : TypeId} {v : Value} {xs : List Value} (h : w.ownsRow L T size v n xs) (k : ∀ q, v.ownBlock = some q → w1.heap[q]? = w.heap[q]?) : w1.ownsRow L T size v n xs := by
 refine ⟨h.1, ?_⟩
 rcases h.2 with hn | ⟨g, cap, cur, rfl, hb, hg, rest⟩
 · exact .inl hn
 · exact .inr ⟨g, cap, cur, rfl, hb, (k g rfl).trans hg, rest⟩
theorem EvsOwn.same {w w1 : World} {L n : Nat} {v : Value} {l : List Ev} (h : EvsOwn w L v n l) (k : ∀ q, v.ownBlock = some q → w1.heap[q]? = w.heap[q]?) (k1 : KB 174 w w1) (k2 : KB 171 w w1) : EvsOwn w1 L v n l := by
 obtain ⟨hs, h1, h2, h3, h4⟩ := h
 exact ⟨hs, own_same h1 k, h2, h3, fun i x e a b => (h4 i x e a b).kb k1 k2⟩
theorem EvsOwn.typed {w : World} {L n : Nat} {v : Value} {l : List Ev} (h : EvsOwn w L v n l) : ∀ q, v.ownBlock = some q → Typed w 64 q := by
 obtain ⟨hs, h1, -⟩ := h
 exact own_typed h1
theorem EvsOwn.low {w : World} {L n : Nat} {v : Value} {l : List Ev} (h : EvsOwn w L v n l) : ∀ q, v.ownBlock = some q → L ≤ q := by
 obtain ⟨hs, h1, -⟩ := h
 exact own_lt h1
structure MnF (w wJ : World) (gD : Nat) (uF ur : Value) (e : Edl) (lg : ByteArray) (mR : List Reg) (X : Nat → Prop) (vE : Value) (last : Int) (s : ConSt) (wr : World) : Prop where
 ext : Ext w wr
 keep : Keep (fun q => q = gD ∨ uF.ownBlock = some q) wJ wr
 doc : Blk wr gD 52 (oCells e lg last ur vE)
 evs : EvsOwn wr wJ.heap.size vE s.evs.length s.evs
 sep : ∀ q, vE.ownBlock = some q → ¬ X q
 fats : FatsOwn wr w.heap.size wJ.heap.size uF s.fats
 regs : wr.ownsRow w.heap.size 105 7 ur mR.length (mR.flatMap Reg.vals)
section
variable {w wJ wr w2 : World} {gD : Nat} {uF ur vE : Value} {e : Edl} {lg : ByteArray} {mR : List Reg} {X : Nat → Prop} {last : Int} {s : ConSt}
theorem MnF.step (h : MnF w wJ gD uF ur e lg mR X vE last s wr) (q : Ext wr w2) : MnF w wJ gD uF ur e lg mR X vE last s w2 :=
 ⟨h.ext.trans q, h.keep.ext q, h.doc.ext q, h.evs.ext q, h.sep, h.fats.ext q, own_ext h.regs q⟩
theorem MnF.putDoc (h : MnF w wJ gD uF ur e lg mR X vE last s wr) (hw : w.heap.size ≤ gD) (last' : Int) : MnF w wJ gD uF ur e lg mR X vE last' s (putB wr gD 52 (oCells e lg last' ur vE)) :=
 ⟨h.ext.put hw _ _, h.keep.put (.inl (.inl rfl)), h.doc.put _, h.evs.kb (KB.put h.doc (by decide)) (KB.put h.doc (by decide)) (KB.put h.doc (by decide)), h.sep, h.fats.kb (KB.put h.doc (by decide)) (KB.put h.doc (by decide)), own_kb h.regs (KB.put h.doc (by decide))⟩
theorem MnF.poke {g : Nat} {cs cs' : Array Value} (h : MnF w wJ gD uF ur e lg mR X vE last s wr) (hB : Blk wr g 64 cs) (hw : w.heap.size ≤ g) (hJ : wJ.heap.size ≤ g) (hne : ∀ q, vE.ownBlock = some q → q ≠ g) : MnF w wJ gD uF ur e lg mR X vE last s (putB wr g 64 cs') := by
 refine ⟨h.ext.put hw _ _, h.keep.put (.inr hJ), h.doc.kb (KB.put hB (by decide)), h.evs.same (fun q hq => ?_) (KB.put hB (by decide)) (KB.put hB (by decide)), h.sep, h.fats.kb (KB.put hB (by decide)) (KB.put hB (by decide)), own_kb h.regs (KB.put hB (by decide))⟩
 unfold putB
 simp only
 rw [Array.getElem?_setIfInBounds_ne (fun e => hne q hq e.symm)]
theorem MnF.app {w5 : World} {v' : Value} {x : Ev} {A' : Option Addr} {n' c' : Nat} (h : MnF w wJ gD uF ur e lg mR X vE last s wr) (hw : w.heap.size ≤ gD) (hJw : w.heap.size ≤ wJ.heap.size) (q : Ext wr w5) (hg : w5.grownBy w2 vE.ownBlock) (hX : ∀ q, X q → q < w5.heap.size) (hE : EGood w5 wJ.heap.size (EH.of x A' n' c') x)
 (hloc : v'.ownBlock = vE.ownBlock ∨ v'.ownBlock = some w5.heap.size) (hO : ∀ xs, w5.ownsRow wJ.heap.size 64 7 vE s.evs.length xs → w2.ownsRow wJ.heap.size 64 7 v' (s.evs.length + 1) (xs ++ (x.cells A' n' c').toList)) :
 MnF w wJ gD uF ur e lg mR X v' last ⟨s.evs ++ [x], s.fats⟩ (putB w2 gD 52 (oCells e lg last ur v')) := by
 have h5 := h.step q
 have ho := Only.grown hg h5.evs.typed
 have hD := h5.doc.only ho (by decide)
 refine ⟨(Ext.grown h5.ext hg (fun q hq => Nat.le_trans hJw (h5.evs.low q hq))).put hw _ _, (h5.keep.grown hg (fun q hq => .inr (h5.evs.low q hq))).put (.inl (.inl rfl)), hD.put _, ?_, fun q hq => ?_, (h5.fats.kb (ho.kb _ (by decide)) (ho.kb _ (by decide))).kb (KB.put hD (by decide)) (KB.put hD (by decide)), own_kb (own_kb h5.regs (ho.kb _ (by decide))) (KB.put hD (by decide))⟩
 · have := (h5.evs.snoc hE hg hO).kb (KB.put (cs' := oCells e lg last ur v') hD (by decide)) (KB.put (cs' := oCells e lg last ur v') hD (by decide)) (KB.put (cs' := oCells e lg last ur v') hD (by decide))
   simpa using this
 · rcases hloc with hl | hl
   · rw [hl] at hq; exact h.sep q hq
   · rw [hl] at hq
     cases hq
     intro hx
     exact Nat.lt_irrefl _ (hX _ hx)
theorem MnF.note {w5 w6 : World} {v' : Value} {gF nF cF i : Nat} {f : Fat} {b : Bool} {y : Int} {x : FH} (h : MnF w wJ gD uF ur e lg mR X vE last s wr) (hJw : w.heap.size ≤ wJ.heap.size) (hF : uF = .slice (some ⟨gF, 0, none⟩) nF cF) (hTy : Typed wr 67 gF) (hLg : w.heap.size ≤ gF) (hG : FGood wr wJ.heap.size x f) (q : Ext wr w5) (hg : w5.grownBy w6 (x.slot b).ownBlock)
 (hnew : FatsOwn (w6.setCell ⟨gF, i * 5 + slotO b, none⟩ v') w.heap.size wJ.heap.size uF (s.fats.modify i fun f => f.push b y)) :
 MnF w wJ gD uF ur e lg mR X vE last ⟨s.evs, s.fats.modify i fun f => f.push b y⟩ (w6.setCell ⟨gF, i * 5 + slotO b, none⟩ v') := by
 have h5 := h.step q
 have hG5 : ∀ b, w5.ownsRow wJ.heap.size 2 1 (x.slot b) (f.slot b).length ((f.slot b).flatMap intV) := fun b => own_ext (hG.row b) q
 have ho := Only.grown hg (own_typed (hG5 b))
 have hT6 : Typed w6 67 gF := (hTy.ext q).kb (ho.kb _ (by decide))
 have ho2 : Only 67 w6 (w6.setCell ⟨gF, i * 5 + slotO b, none⟩ v') := Only.set hT6
 refine ⟨(Ext.grown h5.ext hg (fun q hq => Nat.le_trans hJw (own_lt (hG5 b) q hq))).setCell hLg _, (h5.keep.grown hg (fun q hq => .inr (own_lt (hG5 b) q hq))).set (.inl (.inr (by rw [hF]; rfl))), (h5.doc.only ho (by decide)).only ho2 (by decide), ?_, h.sep, hnew, own_kb (own_kb h5.regs (ho.kb _ (by decide))) (ho2.kb _ (by decide))⟩
 exact (h5.evs.kb (ho.kb _ (by decide)) (ho.kb _ (by decide)) (ho.kb _ (by decide))).kb (ho2.kb _ (by decide)) (ho2.kb _ (by decide)) (ho2.kb _ (by decide))
end
theorem MnF.final {w wJ wr : World} {gD gz : Nat} {uF ur vE : Value} {e : Edl} {lg : ByteArray} {mR : List Reg} {X : Nat → Prop} {last : Int} {s : ConSt} {cs : Array Value} (h : MnF w wJ gD uF ur e lg mR X vE last s wr) (hZ : Blk wr gz 52 cs) (cs' : Array Value) :
 EvsOwn (putB wr gz 52 cs') wJ.heap.size vE s.evs.length s.evs ∧ FatsOwn (putB wr gz 52 cs') w.heap.size wJ.heap.size uF s.fats ∧ (putB wr gz 52 cs').ownsRow w.heap.size 105 7 ur mR.length (mR.flatMap Reg.vals) :=
 ⟨h.evs.kb (KB.put hZ (by decide)) (KB.put hZ (by decide)) (KB.put hZ (by decide)), h.fats.kb (KB.put hZ (by decide)) (KB.put hZ (by decide)), own_kb h.regs (KB.put hZ (by decide))⟩
theorem MnF.weaken {w wJ wr : World} {gD : Nat} {uF ur vE : Value} {e : Edl} {lg : ByteArray} {mR : List Reg} {X : Nat → Prop} {last : Int} {s : ConSt} (h : MnF w wJ gD uF ur e lg mR X vE last s wr) : MnF w wJ gD uF ur e lg mR (fun _ => False) vE last s wr :=
 ⟨h.ext, h.keep, h.doc, h.evs, fun _ _ h => h, h.fats, h.regs⟩
def MnSt (w wJ : World) (gD : Nat) (uF ur : Value) (e : Edl) (lg : ByteArray) (mR : List Reg) (X : Nat → Prop) (s : ConSt) (wr : World) : Prop := ∃ vE, MnF w wJ gD uF ur e lg mR X vE s.evs.length s wr
structure NtJ (base : Nat) (v : Value) (n : Nat) (xs : List Value) (y : Int) (p : Addr) (W : World) (us : List Value) (w' : World) : Prop where
 only : us.length ≤ 2 → Only 2 W w'
 e0 : us.length = 0 → Ext W w'
 e1 : us.length = 1 → Ext W w' ∧ ∃ g, us.getD 0 undef = .slice (some ⟨g, 0, none⟩) 1 1 ∧ Blk w' g 2 #[.int .i64 y]
 e2 : us.length = 2 → ∃ w5, Ext W w5 ∧ w5.grownBy w' v.ownBlock ∧ ((us.getD 1 undef).ownBlock = v.ownBlock ∨ (us.getD 1 undef).ownBlock = some w5.heap.size) ∧ w'.ownsRow base 2 1 (us.getD 1 undef) (n + 1) (xs ++ [.int .i64 y])
 e3 : us.length = 3 → ∃ w5 w6, Ext W w5 ∧ w5.grownBy w6 v.ownBlock ∧ ((us.getD 1 undef).ownBlock = v.ownBlock ∨ (us.getD 1 undef).ownBlock = some w5.heap.size) ∧ w6.ownsRow base 2 1 (us.getD 1 undef) (n + 1) (xs ++ [.int .i64 y]) ∧ w' = w6.setCell p (us.getD 1 undef)
section
variable {base n : Nat} {v : Value} {xs : List Value} {y : Int} {p : Addr} {W w' w2 : World} {u0 u1 u2 : Value}
theorem NtJ.start (W : World) : NtJ base v n xs y p W [] W.drew := ⟨fun _ => Only.ext (Ext.refl W).drew, fun _ => (Ext.refl W).drew, fun h => by simp at h, fun h => by simp at h, fun h => by simp at h⟩
theorem NtJ.build (h : NtJ base v n xs y p W [] w') : NtJ base v n xs y p W ([] ++ [.slice (some ⟨w'.heap.size, 0, none⟩) 1 1]) (w'.alloc (.cells #[.int .i64 y] 2)) :=
 ⟨fun _ => (h.only (by simp)).trans (Only.ext ((Ext.refl w').alloc _)), fun h => by simp at h, fun _ => ⟨(h.e0 rfl).alloc _, ⟨_, rfl, Blk.new w' _ _⟩⟩, fun h => by simp at h, fun h => by simp at h⟩
theorem NtJ.app (h : NtJ base v n xs y p W [u0] w') (hv : ∀ q, v.ownBlock = some q → Typed w' 2 q) (hg : w'.grownBy w2 v.ownBlock) (hloc : u1.ownBlock = v.ownBlock ∨ u1.ownBlock = some w'.heap.size) (ho : w2.ownsRow base 2 1 u1 (n + 1) (xs ++ [.int .i64 y])) : NtJ base v n xs y p W ([u0] ++ [u1]) w2 :=
 ⟨fun _ => (h.only (by simp)).trans (Only.grown hg hv), fun h => by simp at h, fun h => by simp at h, fun _ => ⟨w', (h.e1 rfl).1, hg, hloc, ho⟩, fun h => by simp at h⟩
theorem NtJ.store (h : NtJ base v n xs y p W [u0, u1] w') : NtJ base v n xs y p W ([u0, u1] ++ [u2]) (w'.setCell p u1) := by
 obtain ⟨w5, a, b, c, d⟩ := h.e2 rfl
 exact ⟨fun h => by simp at h, fun h => by simp at h, fun h => by simp at h, fun h => by simp at h, fun _ => ⟨w5, w', a, b, c, d, rfl⟩⟩
end
structure E2K (C : Nat) (cs1 cs2 : Array Value) (W : World) (us : List Value) (w' : World) : Prop where
 only : Only 64 W w'
 nil : us = [] → Ext W w'
 one : ∀ u, us = [u] → ∃ w5, Ext W w5 ∧ w' = putB w5 C 64 cs1
 two : ∀ u u1, us = [u, u1] → ∃ w5, Ext W w5 ∧ w' = putB w5 C 64 cs2
section
variable {C : Nat} {cs0 cs1 cs2 : Array Value} {W w' : World} {u0 u1 : Value}
theorem E2K.start (W : World) : E2K C cs1 cs2 W [] W.drew := ⟨Only.ext (Ext.refl W).drew, fun _ => (Ext.refl W).drew, fun u h => by simp at h, fun u u1 h => by simp at h⟩
theorem E2K.first (h : E2K C cs1 cs2 W [] w') (hB : Blk W C 64 cs0) : E2K C cs1 cs2 W ([] ++ [u0]) (putB w' C 64 cs1) :=
 ⟨(Only.ext (h.nil rfl)).trans (Only.put (hB.ext (h.nil rfl))), fun h => by simp at h, fun u hu => ⟨w', h.nil rfl, rfl⟩, fun u u1 h => by simp at h⟩
theorem E2K.second (h : E2K C cs1 cs2 W [u0] w') (hB : Blk W C 64 cs0) : E2K C cs1 cs2 W ([u0] ++ [u1]) (putB w' C 64 cs2) := by
 obtain ⟨w5, hx, rfl⟩ := h.one u0 rfl
 refine ⟨h.only.trans (Only.put ((hB.ext hx).put cs1)), fun h => by simp at h, fun u h => by simp at h, fun u v e => ⟨w5, hx, by rw [putB_putB]⟩⟩
end
theorem conCut_len {docs : List RDoc} (h : ∀ d ∈ docs, d.doc.evs.length ≤ 400) (least : Int) (s : ConSt) (c : Cut) : (conCut docs least s c).evs.length ≤ s.evs.length + 400 ∧ (conCut docs least s c).fats.length = s.fats.length := by
 unfold conCut
 cases findRd docs c.reel with
 | none => simp
 | some k =>
  have h1 := conEvs_len c least (evsR docs k) (offR docs k) s
  have h2 : (evsR docs k).length ≤ 400 := by
   unfold evsR
   cases hk : docs[k]? with
   | none => simp
   | some d => exact h d (List.mem_of_getElem? hk)
  exact ⟨Nat.le_trans h1.1 (by omega), h1.2⟩
theorem conCuts_len {docs : List RDoc} (h : ∀ d ∈ docs, d.doc.evs.length ≤ 400) (least : Int) : ∀ (l : List Cut) (s : ConSt), (conCuts docs least l s).evs.length ≤ s.evs.length + l.length * 400 ∧ (conCuts docs least l s).fats.length = s.fats.length
 | [], s => by simp [conCuts]
 | c :: l, s => by
  have h1 := conCut_len h least s c
  have h2 := conCuts_len h least l (conCut docs least s c)
  have e : conCuts docs least (c :: l) s = conCuts docs least l (conCut docs least s c) := rfl
  rw [e, List.length_cons, Nat.succ_mul]
  omega
def Mn1Rel (w wJ : World) (gD : Nat) (uF ur : Value) (e : Edl) (lg : ByteArray) (mR : List Reg) (docs : List RDoc) (least : Int) (cuts : List Cut) (s0 : ConSt) (n : Nat) (i : Value) (wr : World) : Prop :=
 ∃ k : Nat, k ≤ n ∧ i = .int .i64 k ∧ MnSt w wJ gD uF ur e lg mR (fun _ => False) (conCuts docs least (cuts.take k) s0) wr
def Mn2Rel (w wJ : World) (gD : Nat) (uF ur : Value) (e : Edl) (lg : ByteArray) (mR : List Reg) (c : Cut) (least : Int) (off : Nat) (evs : List Ev) (s0 : ConSt) (vC : Value) (gc n : Nat) (i : Value) (wr : World) : Prop :=
 ∃ j : Nat, j ≤ n ∧ i = .int .i64 j ∧ MnSt w wJ gD uF ur e lg mR (fun q => vC.ownBlock = some q) (conEvs c least off (evs.take j) s0) wr ∧ EvsOwn wr wJ.heap.size vC n evs ∧ Blk wr gc 91 c.cells
theorem joinC_ok {e : Edl} (h : edlErr e = 0) : ∀ c ∈ joinC e.cuts, c.pc.Ok := by
 intro c hc
 have h1 := join_ok h
 have h2 := (edlErr_ok h1).2.2.2.2.1
 rw [joinE_ok h] at h2
 exact cut_pc_ok (cutsErr_ok h2 c hc).1 (dayOf_bd _ _)
theorem joinC_few {e : Edl} (h : edlErr e = 0) : (joinC e.cuts).length ≤ 64 := by
 have h1 := joinC_len e.cuts e.cuts.length (Nat.le_refl _)
 rw [List.take_length] at h1
 have := (edlErr_ok h).2.2.2.1
 omega
theorem fats_in {e : Edl} {docs : List RDoc} {z j : Nat} {x : RDoc} {y : Ev} (hx : docs[z]? = some x) (hy : x.doc.evs[j]? = some y) : offR docs z + j < (fatsR e docs).length := by
 have h1 := (List.getElem?_eq_some_iff.1 (keys_at hx hy)).1
 have h2 := congrArg List.length (keys_fats e docs)
 rw [List.length_map] at h2
 omega
theorem modify_two {l : List Fat} {i : Nat} {f g : Fat → Fat} : (l.modify i f).modify i g = l.modify i fun x => g (f x) := by
 apply List.ext_getElem?
 intro j
 rw [List.getElem?_modify, List.getElem?_modify, List.getElem?_modify]
 cases l[j]? with
 | none => rfl
 | some x => by_cases h : i = j <;> simp [h]
theorem modify_note (l : List Fat) (i : Nat) (id : Int) (sh : Bool) : (l.modify i fun f => f.note id sh) = if sh = true then (l.modify i fun f => f.push false id).modify i (fun f => f.push true id) else l.modify i fun f => f.push false id := by
 cases sh with
 | false => simp only [note_push]; rfl
 | true => rw [if_pos rfl, modify_two]; simp only [note_push]; rfl
theorem EvsOwn.row {w : World} {L n : Nat} {v : Value} {l : List Ev} (h : EvsOwn w L v n l) : ∃ xs, w.ownsRow L 64 7 v n xs := h.elim fun _ h => ⟨_, h.1⟩
theorem map_notCells {w : World} {B q : Nat} {l : List RDoc} {T : TypeId} (h : MapS w B l q) (k : Typed w T B) : False := by
 obtain ⟨n, D, ⟨es, cl, h1, -⟩, -⟩ := h
 obtain ⟨cur, h2⟩ := k
 rw [h1] at h2
 cases h2
theorem info_evC : (Tryz.prog.info? 64).map (fun i => (i.zero, i.size, i.bytes)) = some (some (.agg #[.int .i64 0, .int .i64 0, .int .i64 0, .string ⟨#[]⟩, .int .u8 0, .string ⟨#[]⟩, .slice none 0 0]), 7, 88) := by kernel_rfl
theorem EGood.as {w : World} {L : Nat} {x : Ev} {A : Option Addr} {n c : Nat} (h : EGood w L (EH.of x A n c) x) (id : Int) (s : Spn) : EGood w L (EH.of (x.as id s) A n c) (x.as id s) := ⟨rfl, h.2.1, h.2.2.1, h.2.2.2⟩
theorem putB_keep {w : World} {g q : Nat} {T : TypeId} {cs : Array Value} (h : q ≠ g) : (putB w g T cs).heap[q]? = w.heap[q]? := by
 unfold putB
 simp only
 rw [Array.getElem?_setIfInBounds_ne (fun e => h e.symm)]
theorem Blk.awayC {w w1 : World} {g : Nat} {t : TypeId} {cs : Array Value} {row : Option Nat} (h : Blk w g t cs) (hg : w.grownBy w1 row) (hne : ∀ q, row = some q → q ≠ g) : Blk w1 g t cs := (hg.block g h.lt (fun e => hne g e.symm rfl)).trans h
def PL (s : ConSt) : Prop := ∀ f ∈ s.fats, f.parts.length ≤ s.evs.length ∧ f.short.length ≤ s.evs.length
theorem PL.step {s : ConSt} (h : PL s) (c : Cut) (least : Int) (i : Nat) (x : Ev) : PL (conStep c least i x s) := by
 unfold conStep
 cases partE c x with
 | none => exact h
 | some p =>
  intro f hf
  obtain ⟨j, hj⟩ := List.getElem?_of_mem hf
  simp only [List.getElem?_modify] at hj
  cases hk : s.fats[j]? with
  | none => rw [hk] at hj; simp at hj
  | some g =>
   have hg := h g (List.mem_of_getElem? hk)
   rw [hk] at hj
   simp only [List.length_append, List.length_singleton]
   by_cases hij : i = j
   · simp [hij] at hj
     subst hj
     unfold Fat.note
     simp only [List.length_append, List.length_singleton]
     refine ⟨by omega, ?_⟩
     split
     · simp; omega
     · omega
   · simp [hij] at hj
     subst hj
     omega
theorem PL.evs {c : Cut} {least : Int} : ∀ {l : List Ev} {i : Nat} {s : ConSt}, PL s → PL (conEvs c least i l s)
 | [], _, _, h => h
 | x :: l, i, s, h => PL.evs (l := l) (i := i + 1) (h.step c least i x)
theorem PL.cuts {docs : List RDoc} {least : Int} : ∀ {l : List Cut} {s : ConSt}, PL s → PL (conCuts docs least l s)
 | [], _, h => h
 | c :: l, s, h => by
  show PL (conCuts docs least l (conCut docs least s c))
  refine PL.cuts ?_
  unfold conCut
  cases findRd docs c.reel with
  | none => exact h
  | some k => exact PL.evs h
theorem PL.start (e : Edl) (docs : List RDoc) : PL ⟨[], fatsR e docs⟩ := fun f hf => by
 obtain ⟨d, -, hf⟩ := List.mem_flatMap.1 hf
 obtain ⟨x, -, rfl⟩ := List.mem_map.1 hf
 simp
theorem info_intC : (Tryz.prog.info? 2).map (fun i => (i.zero, i.size, i.bytes)) = some (some (.int .i64 0), 1, 8) := by kernel_rfl
end
section
open Go.RowKit
theorem lang_all {docs : List RDoc} {s : ByteArray} (h0 : docs = [] → s = ⟨#[]⟩) (h : ∀ d ∈ docs, d.doc.lang = s) : langD docs = s := by
 cases docs with
 | nil => exact (h0 rfl).symm
 | cons d r =>
  have hd := h d (by simp)
  simp only [langD]
  rw [if_pos]
  · exact hd
  · rw [List.all_eq_true]
    intro x hx
    simp [h x (by simp [hx]), hd]
theorem lang_two {docs : List RDoc} {a b : RDoc} (ha : a ∈ docs) (hb : b ∈ docs) (hne : a.doc.lang ≠ b.doc.lang) : langD docs = ⟨#[]⟩ := by
 cases docs with
 | nil => simp at ha
 | cons d r =>
  simp only [langD]
  rw [if_neg]
  intro h
  rw [List.all_eq_true] at h
  have h2 : ∀ x ∈ d :: r, x.doc.lang = d.doc.lang := fun x hx => by
   rcases List.mem_cons.1 hx with rfl | hx
   · rfl
   · simpa using h x hx
  exact hne ((h2 a ha).trans (h2 b hb).symm)
def LgRel (w : World) (n : Nat) (l : List RDoc) (v i : Value) (wr : World) : Prop :=
 ∃ (k : Nat) (s : ByteArray), k ≤ n ∧ i = .int .i64 k ∧ v = .string s ∧ Ext w wr ∧ (k = 0 → s = ⟨#[]⟩) ∧ ∀ d ∈ l.take k, d.doc.lang = s
set_option maxRecDepth 100000 in
set_option maxHeartbeats 4000000 in
theorem Lang_any (A : Option Addr) (n c : Nat) (l : List RDoc) (w : World) (hl : RDocsAt w A n l) (hn : n ≤ 1000000) :
 Calls Tryz.prog 54 #[.slice A n c] w fun e w' => e = .returned (.string (langD l)) ∧ Ext w w' := by
 have HL := Lib.hid hl
 have HLn := Lib.hid hl.len
 clear hl
 go_enter Tryz.func54, Tryz.ntmps54
 go_wp2_with fail
 go_loopw [3, 8] (fun v i wr => LgRel w n l v i wr) (fun _ i _ => n - (intOf i).toNat)
 case atStart => exact ⟨0, ⟨#[]⟩, Nat.zero_le _, rfl, rfl, Ext.refl _, fun _ => rfl, by simp⟩
 case round =>
  obtain ⟨k, s, hk, rfl, rfl, hx, h0, ha⟩ := hrel
  have HX := Lib.hid hx
  have H0 := Lib.hid h0
  have HA := Lib.hid ha
  clear hx h0 ha
  by_cases hlt : k < n
  · obtain ⟨b, off, x, h, rfl, hxk, -, -, c0, c1, c2, c3, c4, c5, c6, c7, c8⟩ := (HL.out.ext HX.out).at9 hlt
    obtain ⟨ra, rn, rc, ea, en, ec, ca, cn, cc⟩ := h
    have HK := Lib.hid hxk
    have HXd := Lib.hid (HX.out.alloc (.cells (x.cells ⟨ra, rn, rc, ea, en, ec, ca, cn, cc⟩) 58))
    unfold RDoc.cells at HXd
    dsimp only at HXd
    clear hxk
    by_cases hk0 : 0 < k
    · have g1 : decide ((k : Int) > 0) = true := decide_eq_true (by omega)
      have g1' : decide ((0 : Int) < (k : Int)) = true := decide_eq_true (by omega)
      by_cases hq : x.doc.lang = s
      · have g2 : (x.doc.lang.toList == s.toList) = true := by rw [hq]; simp
        have HA1 : Hid (∀ d ∈ l.take (k + 1), d.doc.lang = s) := fun d hd => by
         rw [take_snoc' _ _ _ HK.out] at hd
         rcases List.mem_append.1 hd with hd | hd
         · exact HA.out d hd
         · simp at hd; subst hd; exact hq
        have HQ := Lib.hid hq
        clear hq
        go_wp2_with fail
        exact ⟨⟨k + 1, s, by omega, by go_num, by rw [HQ.out], HXd.out, fun h => by omega, HA1.out⟩, by simp [intOf]; omega⟩
      · have g2 : (x.doc.lang.toList == s.toList) = false := by rw [bs_eq]; simpa using hq
        have HR : Hid (langD l = ⟨#[]⟩) := by
         show _ = _
         obtain ⟨y, hy⟩ := getElem_ltq (l := l) (p := 0) (by have := HLn.out; omega)
         have hy1 : y ∈ l.take k := List.mem_of_getElem? (i := 0) (by rw [List.getElem?_take, if_pos hk0]; exact hy)
         exact lang_two (List.mem_of_getElem? HK.out) (List.mem_of_getElem? hy) (by rw [HA.out y hy1]; exact hq)
        clear hq
        go_wp2_with fail
        go_ret
        exact ⟨by rw [HR.out]; rfl, HXd.out⟩
    · have hk00 : k = 0 := by omega
      subst hk00
      simp only [Nat.zero_mul, Nat.add_zero] at c0 c1 c2 c3 c4 c5 c6 c7 c8
      have HA1 : Hid (∀ d ∈ l.take 1, d.doc.lang = x.doc.lang) := fun d hd => by
       have h1 := take_snoc' l 0 _ HK.out
       rw [h1] at hd
       simp at hd; subst hd; rfl
      go_wp2_with fail
      exact ⟨⟨1, x.doc.lang, by omega, by go_num, rfl, HXd.out, fun h => by omega, HA1.out⟩, by simp [intOf]; omega⟩
  · have hkn : k = n := by omega
    subst hkn
    have HR : Hid (langD l = s) := lang_all (fun h => H0.out (by have := HLn.out; rw [h] at this; simpa using this.symm)) (fun d hd => HA.out d (by rwa [List.take_of_length_le (by have := HLn.out; omega)]))
    go_wp2_with fail
    go_ret
    exact ⟨by rw [HR.out]; rfl, HX.out⟩
def LrRel (w : World) (n : Nat) (l : List RDoc) (s : ByteArray) (i : Value) (wr : World) : Prop := ∃ k : Nat, k ≤ n ∧ i = .int .i64 k ∧ Ext w wr ∧ ∀ d ∈ l.take k, d.doc.lang = s
def ixD (l : List RDoc) (s : ByteArray) : Int := match findRd l s with | some k => (k : Int) | none => -1
theorem ixD_step {l : List RDoc} {k : Nat} {x : RDoc} {s : ByteArray} (hx : l[k]? = some x) (hp : ∀ y ∈ l.take k, y.reel ≠ s) : (x.reel = s → ixD l s = k) ∧ (x.reel ≠ s → ∀ y ∈ l.take (k + 1), y.reel ≠ s) := by
 obtain ⟨hk, hxk⟩ := List.getElem?_eq_some_iff.1 hx
 refine ⟨fun h => ?_, fun h y hy => ?_⟩
 · have : findRd l s = some k := List.findIdx?_eq_some_iff_getElem.2 ⟨hk, by simp [hxk, h], fun j hj => by
    have := hp l[j] (List.mem_take_iff_getElem.2 ⟨j, by omega, rfl⟩)
    simp [this]⟩
   unfold ixD
   rw [this]
 · rw [take_snoc' _ _ _ hx] at hy
   rcases List.mem_append.1 hy with hy | hy
   · exact hp y hy
   · simp at hy; subst hy; exact h
theorem ixD_none {l : List RDoc} {s : ByteArray} (hp : ∀ y ∈ l, y.reel ≠ s) : ixD l s = -1 := by
 unfold ixD findRd
 rw [List.findIdx?_eq_none_iff.2 (fun y hy => by simpa using hp y hy)]
def PlRel (w : World) (n : Nat) (l : List RDoc) (s : ByteArray) (i : Value) (wr : World) : Prop := ∃ k : Nat, k ≤ n ∧ i = .int .i64 k ∧ Ext w wr ∧ ∀ y ∈ l.take k, y.reel ≠ s
set_option maxHeartbeats 1000000 in
theorem Conform1_any (x : RDoc) (h : DocH) (g : Nat) (c : Cut) (w : World) (hB : Blk w g 91 c.cells) :
 Calls Tryz.prog 57 #[.agg (x.cells h), .pointer (some ⟨g, 0, none⟩)] w fun e w' => e = .returned (.bool (x.reel.toList == c.reel.toList)) ∧ Ext w w' := by
 have HX := Lib.hid ((Ext.refl w).alloc (.cells (x.cells h) 58))
 have hg : ∀ o, (w.alloc o).cell? ⟨g, 1, none⟩ = some (.string c.reel) := fun o => (hB.alloc o).cell 1
 have hlt := hB.lt
 clear hB
 unfold RDoc.cells at *
 go_enter Tryz.func57, Tryz.ntmps57
 go_wp2_with fail
 go_ret
 exact ⟨rfl, HX.out⟩
set_option maxRecDepth 100000 in
set_option maxHeartbeats 4000000 in
theorem IndexDoc_any (A : Option Addr) (n cp : Nat) (l : List RDoc) (g : Nat) (c : Cut) (w : World) (hl : RDocsAt w A n l) (hn : n ≤ 1000000) (hB : Blk w g 91 c.cells) :
 Calls Tryz.prog 56 #[.slice A n cp, .func (.func 57) #[] #[.pointer (some ⟨g, 0, none⟩)]] w fun e w' => e = .returned (.int .i64 (ixD l c.reel)) ∧ Ext w w' := by
 have HL := Lib.hid hl
 have HLn := Lib.hid hl.len
 have HBg := Lib.hid hB
 clear hl hB
 go_enter Tryz.func56, Tryz.ntmps56
 go_wp2_with fail
 go_loopw [8] (fun i wr => PlRel w n l c.reel i wr) (fun i _ => n - (intOf i).toNat)
 case atStart => exact ⟨0, Nat.zero_le _, rfl, Ext.refl _, by simp⟩
 case round =>
  obtain ⟨k, hk, rfl, hx, hp⟩ := hrel
  have HX := Lib.hid hx
  have HP := Lib.hid hp
  clear hx hp
  by_cases hlt : k < n
  · obtain ⟨b, off, x, h, rfl, hxk, -, -, c0, c1, c2, c3, c4, c5, c6, c7, c8⟩ := (HL.out.ext HX.out).at9 hlt
    have HS := Lib.hid (ixD_step hxk HP.out)
    have HCl := Lib.hid (Conform1_any x h g c wr (HBg.out.ext HX.out))
    obtain ⟨ra, rn, rc, ea, en, ec, ca, cn, cc⟩ := h
    unfold RDoc.cells at HCl
    dsimp only at HCl
    clear hxk
    by_cases hq : x.reel = c.reel
    · have g2 : (x.reel.toList == c.reel.toList) = true := by rw [hq]; simp
      have HT := Lib.hid (HS.out.1 hq)
      rw [g2] at HCl
      clear hq g2
      go_wp2_with fail
      refine HCl.out.mono ?_
      rintro en' w2 ⟨rfl, hx2⟩
      go_wp2_with fail
      go_ret
      exact ⟨ret_int HT.out.symm, HX.out.trans hx2⟩
    · have g2 : (x.reel.toList == c.reel.toList) = false := by rw [bs_eq]; simpa using hq
      have HT := Lib.hid (HS.out.2 hq)
      rw [g2] at HCl
      clear hq g2
      go_wp2_with fail
      refine HCl.out.mono ?_
      rintro en' w2 ⟨rfl, hx2⟩
      go_wp2_with fail
      exact ⟨⟨k + 1, by omega, by go_num, HX.out.trans hx2, HT.out⟩, by simp [intOf]; omega⟩
  · have hkn : k = n := by omega
    subst hkn
    have HT : Hid (ixD l c.reel = -1) := ixD_none (fun y hy => HP.out y (by rwa [List.take_of_length_le (by have := HLn.out; omega)]))
    go_wp2_with fail
    go_ret
    exact ⟨ret_int HT.out.symm, HX.out⟩
end
section
open Go.RowKit
def InT (l : List Spn) : Prop := ∀ s ∈ l, 0 ≤ s.inn ∧ s.out ≤ maxT
def IdxRel (w : World) (n : Nat) (i : Value) (wr : World) : Prop := ∃ k : Nat, k ≤ n ∧ i = .int .i64 k ∧ Ext w wr
set_option maxRecDepth 100000 in
set_option maxHeartbeats 4000000 in
theorem SCheck_ok (A : Option Addr) (n c : Nat) (l : List Spn) (w : World) (hl : SpnsAt w A n l) (hok : SetOk l) (hb : InT l) (hn : n ≤ 400) :
 Calls Tryz.prog 183 #[.slice A n c] w fun e w' => e = .returned (.int .i64 0) ∧ Ext w w' := by
 have HL := Lib.hid hl
 have HOk := Lib.hid hok
 have HBd := Lib.hid hb
 have hb : decide ((n : Int) > 400) = false := by simp; omega
 have hb2 : decide ((400 : Int) < n) = false := by simp; omega
 clear hl hok
 go_enter Tryz.func183, Tryz.ntmps183
 go_wp2_with fail
 clear hb hb2
 go_loopw [10] (fun i wr => IdxRel w n i wr) (fun i _ => n - (intOf i).toNat)
 case atStart => exact ⟨0, Nat.zero_le _, rfl, Ext.refl _⟩
 case round =>
  obtain ⟨k, hk, rfl, hx⟩ := hrel
  have HX := Lib.hid hx
  clear hx
  by_cases hlt : k < n
  case neg =>
   have hkn : k = n := by omega
   subst hkn
   go_wp2_with fail
   go_ret
   exact ⟨rfl, HX.out⟩
  obtain ⟨b, off, x, rfl, hxk, hC⟩ := (HL.out.ext HX.out).at_ hlt
  have c0 := hC 0 _ rfl
  have c1 := hC 1 _ rfl
  simp only [Nat.add_zero] at c0
  have hf := HOk.out.1 x (List.mem_of_getElem? hxk)
  have hr := HBd.out x (List.mem_of_getElem? hxk)
  unfold maxT at hr
  have HPr : Hid (∀ j y, k = j + 1 → l[j]? = some y → ¬ x.inn ≤ y.out) := fun j y hj hy => by
   subst hj
   have h1 := List.pairwise_iff_getElem.1 HOk.out.2 j (j + 1) (List.getElem?_eq_some_iff.1 hy).1 (List.getElem?_eq_some_iff.1 hxk).1 (by omega)
   rw [(List.getElem?_eq_some_iff.1 hy).2, (List.getElem?_eq_some_iff.1 hxk).2] at h1
   omega
  have g1 : decide (x.inn ≥ x.out) = false := by simp; omega
  have g1' : decide (x.out ≤ x.inn) = false := by simp; omega
  have g2 : decide (x.inn < 0) = false := by simp; omega
  have g3 : decide (x.out > 10378368000) = false := by simp; omega
  have g3' : decide (10378368000 < x.out) = false := by simp; omega
  have HXx := Lib.hid ((Ext.refl wr).alloc (.cells #[.int .i64 x.inn, .int .i64 x.out] 60))
  clear hC hxk hf hr
  by_cases hk0 : 0 < k
  · obtain ⟨b', off', y, hA, hyk, hD⟩ := (HL.out.ext (HX.out.trans HXx.out)).at_ (i := k - 1) (by omega)
    cases hA
    have d1 := hD 1 _ rfl
    have hny := HPr.out (k - 1) y (by omega) hyk
    have g7 : decide (x.inn ≤ y.out) = false := by simpa using hny
    have g8 : decide ((k : Int) > 0) = true := by simp; omega
    have g8' : decide ((0 : Int) < k) = true := by simp; omega
    obtain ⟨j, rfl⟩ : ∃ j, k = j + 1 := ⟨k - 1, by omega⟩
    simp only [Nat.add_sub_cancel] at d1
    clear hD hyk hny
    go_wp2_with fail
    go_quiet (fail)
    go_wp2_with fail
    exact ⟨⟨j + 1 + 1, by omega, by go_num, (HX.out.trans HXx.out).drewN _⟩, by simp [intOf]; omega⟩
  · have hk00 : k = 0 := by omega
    subst hk00
    simp only [Nat.zero_mul, Nat.add_zero] at c0 c1
    go_wp2_with fail
    go_quiet (fail)
    go_wp2_with fail
    exact ⟨⟨0 + 1, by omega, by go_num, (HX.out.trans HXx.out).drewN _⟩, by simp [intOf]; omega⟩
theorem blk_grown {w w' : World} {o : Obj} {row : Option Nat} {g : Nat} {T : TypeId} {cs : Array Value} (h : Blk w g T cs) (hg : (w.alloc o).grownBy w' row) (hne : row ≠ some g) : Blk w' g T cs :=
 (hg.block g (by have := h.lt; simp; omega) (fun e => hne e.symm)).trans (h.alloc o)
def gapS (a : Int) (s : Spn) : List Spn := if a < s.inn then [⟨a, s.inn⟩] else []
def restT : Int → List Spn → List Spn
 | _, [] => []
 | a, s :: l => gapS a s ++ restT s.out l
def endT : Int → List Spn → Int
 | a, [] => a
 | _, s :: l => endT s.out l
theorem restF_T : ∀ (a : Int) (l : List Spn), restF a l = restT a l ++ [⟨endT a l, maxT + 1⟩]
 | a, [] => rfl
 | a, s :: l => by unfold restF restT endT gapS; rw [restF_T, List.append_assoc]
theorem restT_snoc : ∀ (a : Int) (l : List Spn) (x : Spn), restT a (l ++ [x]) = restT a l ++ gapS (endT a l) x ∧ endT a (l ++ [x]) = x.out
 | a, [], x => by simp [restT, endT]
 | a, s :: l, x => by
  obtain ⟨h1, h2⟩ := restT_snoc s.out l x
  simp only [List.cons_append, restT, endT]
  exact ⟨by rw [h1, List.append_assoc], h2⟩
theorem restT_len : ∀ (a : Int) (l : List Spn), (restT a l).length ≤ l.length
 | a, [] => by simp [restT]
 | a, s :: l => by
  have := restT_len s.out l
  unfold restT gapS
  split <;> simp <;> omega
def RsRel (w : World) (n : Nat) (l : List Spn) (v v4 i : Value) (wr : World) : Prop :=
 ∃ k : Nat, k ≤ n ∧ i = .int .i64 k ∧ v4 = .int .i64 (endT 0 (l.take k)) ∧ Ext w wr ∧ wr.ownsRow w.heap.size 60 2 v (restT 0 (l.take k)).length ((restT 0 (l.take k)).flatMap Spn.vals)
set_option maxRecDepth 100000 in
set_option maxHeartbeats 4000000 in
theorem Rest_any (A : Option Addr) (n c : Nat) (l : List Spn) (w : World) (hl : SpnsAt w A n l) (hn : n ≤ 1000000) :
 Calls Tryz.prog 182 #[.slice A n c] w (SpnsPost (restF 0 l) w) := by
 have HL := Lib.hid hl
 have HLn := Lib.hid hl.len
 clear hl
 unfold SpnsPost
 go_enter Tryz.func182, Tryz.ntmps182
 go_wp2_with fail
 go_loopw [3, 4, 9] (fun v v4 i wr => RsRel w n l v v4 i wr) (fun _ _ i _ => n - (intOf i).toNat)
 case atStart => exact ⟨0, Nat.zero_le _, rfl, rfl, Ext.refl _, ⟨rfl, .inl ⟨rfl, rfl⟩⟩⟩
 case round =>
  obtain ⟨k, hk, rfl, rfl, hx, hown⟩ := hrel
  have HX := Lib.hid hx
  have HO := Lib.hid hown
  have hrl : (restT 0 (l.take k)).length ≤ k := by have := restT_len 0 (l.take k); rw [List.length_take] at this; omega
  have hzr := hx.size
  clear hx hown
  by_cases hlt : k < n
  · obtain ⟨b, off, x, rfl, hxk, hC⟩ := (HL.out.ext HX.out).at_ hlt
    have c0 := hC 0 _ rfl
    have c1 := hC 1 _ rfl
    simp only [Nat.add_zero] at c0
    have HS : Hid (restT 0 (l.take (k + 1)) = restT 0 (l.take k) ++ gapS (endT 0 (l.take k)) x ∧ endT 0 (l.take (k + 1)) = x.out) := by rw [take_snoc' _ _ _ hxk]; exact restT_snoc _ _ _
    clear hC hxk
    generalize restT 0 (l.take k) = os at *
    generalize endT 0 (l.take k) = at' at *
    have HX1 := Lib.hid ((Ext.refl wr).alloc (.cells #[.int .i64 x.inn, .int .i64 x.out] 60))
    by_cases hio : at' < x.inn
    · have d1 : decide (at' < x.inn) = true := by simpa using hio
      have HS1 := Lib.hid HS.out.1
      unfold gapS at HS1
      rw [if_pos hio] at HS1
      clear hio
      go_upto_region 7 with fail
      have HO2 := Lib.hid (own_ext HO.out HX1.out)
      have hz2 := HX1.out.size
      have HBx := Lib.hid (Blk.new wr 60 #[.int .i64 x.inn, .int .i64 x.out])
      obtain ⟨W2, hW2⟩ : ∃ W2, W2 = wr.alloc (.cells #[.int .i64 x.inn, .int .i64 x.out] 60) := ⟨_, rfl⟩
      rw [← hW2] at HX1 HO2 hz2 HBx ⊢
      clear hW2
      have b0 := HBx.out.cell 0
      simp only [List.getElem?_toArray, List.getElem?_cons_zero, List.getElem?_cons_succ] at b0
      go_wp2_with (at_builtin; refine wpList_append1 rfl (.tmp 17) (.tmp 22) 35 rfl info_span Tryz.underlying35 rfl (by decide) (HO2.out.alloc _) (by exact rfl) W2.heap.size _ (by exact rfl) (by exact Blk.new' rfl) (by exact rfl) (by simp [Value.oneCell']) (by omega) (by simp [maxLen] <;> omega) (by first | omega | (simp; omega) | simp) ?_; intro v5 w5 hown5 hgr; have HO5 := Lib.hid hown5; have HX5 := Lib.hid (Ext.grown ((HX.out.trans HX1.out).alloc _) hgr (fun q hq => own_lt HO.out q hq)); have b51 := (blk_grown HBx.out hgr (fun e => by have := (own_typed HO.out _ e).lt; omega)).cell 1; simp only [List.getElem?_toArray, List.getElem?_cons_zero, List.getElem?_cons_succ] at b51; clear hown5 hgr)
      exact ⟨⟨k + 1, by omega, by go_num, by rw [HS.out.2], HX5.out, by rw [HS1.out, List.length_append, List.flatMap_append]; exact HO5.out⟩, by simp [intOf]; omega⟩
    · have d1 : decide (at' < x.inn) = false := by simpa using hio
      have HS1 := Lib.hid HS.out.1
      unfold gapS at HS1
      rw [if_neg hio, List.append_nil] at HS1
      clear hio
      go_wp2_with fail
      exact ⟨⟨k + 1, by omega, by go_num, by rw [HS.out.2], HX.out.trans HX1.out, by rw [HS1.out]; exact own_ext HO.out HX1.out⟩, by simp [intOf]; omega⟩
  · have hkn : k = n := by omega
    subst hkn
    have HT : Hid (restF 0 l = restT 0 (l.take k) ++ [⟨endT 0 (l.take k), maxT + 1⟩]) := by show _ = _; rw [List.take_of_length_le (by have := HLn.out; omega)]; exact restF_T _ _
    generalize restT 0 (l.take k) = os at *
    generalize endT 0 (l.take k) = at' at *
    go_wp2_with (at_builtin; refine wpList_append1 rfl (.tmp 27) (.tmp 30) 35 rfl info_span Tryz.underlying35 rfl (by decide) (HO.out.alloc _) (by exact rfl) wr.heap.size _ (by exact rfl) (by exact Blk.new' rfl) (by exact rfl) (by simp [Value.oneCell']) (by omega) (by simp [maxLen] <;> omega) (by first | omega | (simp; omega) | simp) ?_; intro v5 w5 hown5 hgr; have HO5 := Lib.hid hown5; have HX5 := Lib.hid (Ext.grown (HX.out.alloc _) hgr (fun q hq => own_lt HO.out q hq)); clear hown5 hgr)
    go_ret
    have hO : w5.ownsRow w.heap.size 60 2 v5 (restF 0 l).length ((restF 0 l).flatMap Spn.vals) := by rw [HT.out, List.length_append, List.flatMap_append]; exact HO5.out
    obtain ⟨A', c', rfl, hc, _, hS, hfr⟩ := own_sl (f := Spn.vals) (size := 2) (fun _ => rfl) rfl hO
    exact ⟨A', c', rfl, hS, hc, HX5.out, hfr⟩
end
section
open Go.RowKit
def cmS (x y : Spn) : List Spn := if max x.inn y.inn < min x.out y.out then [⟨max x.inn y.inn, min x.out y.out⟩] else []
theorem cmS_yes {x y : Spn} (h : max x.inn y.inn < min x.out y.out) : cmS x y = [⟨max x.inn y.inn, min x.out y.out⟩] := if_pos h
theorem cmS_no {x y : Spn} (h : ¬ max x.inn y.inn < min x.out y.out) : cmS x y = [] := if_neg h
theorem commS_eq (a b : List Spn) : commS a b = a.flatMap fun x => b.flatMap (cmS x) := rfl
theorem commS_snoc (a b : List Spn) (x : Spn) : commS (a ++ [x]) b = commS a b ++ b.flatMap (cmS x) := by rw [commS_eq, commS_eq, List.flatMap_append]; simp
theorem cm_snoc (b : List Spn) (x y : Spn) : (b ++ [y]).flatMap (cmS x) = b.flatMap (cmS x) ++ cmS x y := by rw [List.flatMap_append]; simp
theorem cm_len (b : List Spn) (x : Spn) : (b.flatMap (cmS x)).length ≤ b.length := by
 induction b with
 | nil => simp
 | cons y b ih =>
  rw [List.flatMap_cons, List.length_append]; have : (cmS x y).length ≤ 1 := by unfold cmS; split <;> simp
  simp only [List.length_cons]; omega
theorem comm_len (a b : List Spn) : (commS a b).length ≤ a.length * b.length := by
 induction a with
 | nil => simp [commS_eq]
 | cons x a ih =>
  rw [commS_eq, List.flatMap_cons, List.length_append, ← commS_eq]
  have := cm_len b x
  simp only [List.length_cons, Nat.add_mul, Nat.one_mul]; omega
def Cm1Rel (w : World) (n : Nat) (a b : List Spn) (v i : Value) (wr : World) : Prop :=
 ∃ k : Nat, k ≤ n ∧ i = .int .i64 k ∧ Ext w wr ∧ wr.ownsRow w.heap.size 60 2 v (commS (a.take k) b).length ((commS (a.take k) b).flatMap Spn.vals)
def Cm2Rel (w : World) (g m : Nat) (P b : List Spn) (x : Spn) (v i : Value) (wr : World) : Prop :=
 ∃ j : Nat, j ≤ m ∧ i = .int .i64 j ∧ Ext w wr ∧ Blk wr g 60 #[.int .i64 x.inn, .int .i64 x.out] ∧ v.ownBlock ≠ some g ∧ wr.ownsRow w.heap.size 60 2 v (P ++ (b.take j).flatMap (cmS x)).length ((P ++ (b.take j).flatMap (cmS x)).flatMap Spn.vals)
set_option maxRecDepth 100000 in
set_option maxHeartbeats 8000000 in
theorem Common_any (A : Option Addr) (n c : Nat) (a : List Spn) (B : Option Addr) (m d : Nat) (b : List Spn) (w : World) (ha : SpnsAt w A n a) (hb : SpnsAt w B m b) (hn1 : n ≤ 1000000) (hn : n * m + m ≤ 1000000) :
 Calls Tryz.prog 181 #[.slice A n c, .slice B m d] w (SpnsPost (commS a b) w) := by
 have HA := Lib.hid ha
 have HB := Lib.hid hb
 have HAn := Lib.hid ha.len
 have HBn := Lib.hid hb.len
 clear ha hb
 unfold SpnsPost
 go_enter Tryz.func181, Tryz.ntmps181
 go_wp2_with fail
 go_loopw [5, 13] (fun v i wr => Cm1Rel w n a b v i wr) (fun _ i _ => n - (intOf i).toNat)
 case atStart => exact ⟨0, Nat.zero_le _, rfl, Ext.refl _, ⟨rfl, .inl ⟨rfl, rfl⟩⟩⟩
 case round =>
  obtain ⟨k, hk, rfl, hx, hown⟩ := hrel
  have HX := Lib.hid hx
  have HO := Lib.hid hown
  have hzr := hx.size
  clear hx hown
  by_cases hlt : k < n
  · obtain ⟨bb, off, x, rfl, hxk, hC⟩ := (HA.out.ext HX.out).at_ hlt
    have c0 := hC 0 _ rfl
    have c1 := hC 1 _ rfl
    simp only [Nat.add_zero] at c0
    have HS : Hid (commS (a.take (k + 1)) b = commS (a.take k) b ++ b.flatMap (cmS x)) := by rw [take_snoc' _ _ _ hxk]; exact commS_snoc _ _ _
    have hPl : (commS (a.take k) b).length ≤ n * m := by
     have h1 := comm_len (a.take k) b
     rw [HBn.out, List.length_take] at h1
     exact Nat.le_trans h1 (Nat.mul_le_mul_right _ (by omega))
    clear hC hxk
    generalize commS (a.take k) b = P at *
    have HBx := Lib.hid (Blk.new wr 60 #[.int .i64 x.inn, .int .i64 x.out])
    have HX1 := Lib.hid (HX.out.alloc (.cells #[.int .i64 x.inn, .int .i64 x.out] 60))
    have HO1 := Lib.hid (HO.out.alloc (.cells #[.int .i64 x.inn, .int .i64 x.out] 60))
    have HNe : Hid (u5.ownBlock ≠ some wr.heap.size) := fun e => by have := (own_typed HO.out _ e).lt; omega
    go_upto_region 5 with fail
    obtain ⟨gx, hgx⟩ : ∃ gx, gx = wr.heap.size := ⟨_, rfl⟩
    rw [← hgx] at HBx HNe ⊢
    obtain ⟨w1, hw1⟩ : ∃ w1, w1 = wr.alloc (.cells #[.int .i64 x.inn, .int .i64 x.out] 60) := ⟨_, rfl⟩
    rw [← hw1] at HBx HX1 HO1 ⊢
    clear hw1 hgx c0 c1 HO
    go_wp2_with fail
    go_loopw [5, 19] (fun v i wq => Cm2Rel w gx m P b x v i wq) (fun _ i _ => m - (intOf i).toNat)
    case atStart => exact ⟨0, Nat.zero_le _, rfl, HX1.out, HBx.out, HNe.out, by simpa using HO1.out⟩
    case round =>
     obtain ⟨j, hj, rfl, hxq, hbq, hne, hown⟩ := hrel
     have HXq := Lib.hid hxq
     have HOq := Lib.hid hown
     have HBq := Lib.hid hbq
     have HNq := Lib.hid hne
     have hzq := hxq.size
     have hql : (P ++ (b.take j).flatMap (cmS x)).length ≤ n * m + j := by have := cm_len (b.take j) x; rw [List.length_take] at this; rw [List.length_append]; omega
     clear hxq hown hbq hne
     by_cases hjt : j < m
     · obtain ⟨b2, off2, y, rfl, hyk, hD⟩ := (HB.out.ext HXq.out).at_ hjt
       have d0 := hD 0 _ rfl
       have d1 := hD 1 _ rfl
       simp only [Nat.add_zero] at d0
       have HT : Hid (P ++ (b.take (j + 1)).flatMap (cmS x) = (P ++ (b.take j).flatMap (cmS x)) ++ cmS x y) := by show _ = _; rw [take_snoc' _ _ _ hyk, cm_snoc, List.append_assoc]
       clear hD hyk
       generalize P ++ (b.take j).flatMap (cmS x) = os at *
       have x0 := HBq.out.cell 0
       have x1 := HBq.out.cell 1
       simp only [List.getElem?_toArray, List.getElem?_cons_zero, List.getElem?_cons_succ] at x0 x1
       have HY := Lib.hid ((Ext.refl wr).alloc (.cells #[.int .i64 y.inn, .int .i64 y.out] 60))
       have hgl := HBq.out.lt
       go_upto_region 9 with fail
       have HX3 := Lib.hid (HY.out.alloc (.cells #[.int .i64 (max x.inn y.inn), .int .i64 (min x.out y.out)] 60))
       have HS3 := Lib.hid (Blk.new (wr.alloc (.cells #[.int .i64 y.inn, .int .i64 y.out] 60)) 60 #[.int .i64 (max x.inn y.inn), .int .i64 (min x.out y.out)])
       obtain ⟨g3, hg3⟩ : ∃ g3, g3 = (wr.alloc (.cells #[.int .i64 y.inn, .int .i64 y.out] 60)).heap.size := ⟨_, rfl⟩
       obtain ⟨w3, hw3⟩ : ∃ w3, w3 = (wr.alloc (.cells #[.int .i64 y.inn, .int .i64 y.out] 60)).alloc (.cells #[.int .i64 (max x.inn y.inn), .int .i64 (min x.out y.out)] 60) := ⟨_, rfl⟩
       rw [← hg3] at HS3
       simp only [World.size_alloc] at hg3
       rw [← hw3] at HS3 HX3 ⊢
       try rw [← hg3]
       clear hw3 hg3 x0 x1 d0 d1
       have HO3 := Lib.hid (own_ext HOq.out HX3.out)
       have HB3 := Lib.hid (HBq.out.ext HX3.out)
       have hgl3 := HB3.out.lt
       have hz3 := HX3.out.size
       have s0 := HS3.out.cell 0
       have s1 := HS3.out.cell 1
       simp only [List.getElem?_toArray, List.getElem?_cons_zero, List.getElem?_cons_succ] at s0 s1
       by_cases hio : max x.inn y.inn < min x.out y.out
       · have e1 : decide (max x.inn y.inn < min x.out y.out) = true := by simpa using hio
         rw [cmS_yes hio] at HT
         clear hio
         generalize max x.inn y.inn = lo at *
         generalize min x.out y.out = hi at *
         go_wp2_with (at_builtin; refine wpList_append1a rfl (.tmp 39) (.tmp 41) 35 rfl info_span Tryz.underlying35 rfl (by decide) (HO3.out.alloc _) (by exact rfl) w3.heap.size _ (by exact rfl) (by exact Blk.new' rfl) (by exact rfl) (by simp [Value.oneCell']) (by omega) (by simp [maxLen] <;> omega) (by first | omega | (simp; omega) | simp) ?_; intro v5 w5 hown5 hgr hloc; have HO5 := Lib.hid hown5; have HX5 := Lib.hid (Ext.grown ((HXq.out.trans HX3.out).alloc _) hgr (fun q hq => own_lt HO3.out q hq)); have HB5 := Lib.hid (blk_grown HB3.out hgr HNq.out); have HN5 : Hid (v5.ownBlock ≠ some gx) := (fun e => by rcases hloc with h | h; exact HNq.out (h ▸ e); rw [h] at e; injection e with e; simp at e; omega); clear hown5 hgr hloc)
         exact ⟨⟨j + 1, by omega, by go_num, HX5.out, HB5.out, HN5.out, by rw [HT.out, List.length_append, List.flatMap_append]; exact HO5.out⟩, by simp [intOf]; omega⟩
       · have e1 : decide (max x.inn y.inn < min x.out y.out) = false := by simpa using hio
         rw [cmS_no hio, List.append_nil] at HT
         clear hio
         generalize max x.inn y.inn = lo at *
         generalize min x.out y.out = hi at *
         go_wp2_with fail
         exact ⟨⟨j + 1, by omega, by go_num, HXq.out.trans HX3.out, HB3.out, HNq.out, by rw [HT.out]; exact HO3.out⟩, by simp [intOf]; omega⟩
     · have hjm : j = m := by omega
       subst hjm
       have HT : Hid (P ++ (b.take j).flatMap (cmS x) = commS (a.take (k + 1)) b) := by show _ = _; rw [List.take_of_length_le (by have := HBn.out; omega)]; exact HS.out.symm
       rw [HT.out] at HOq
       go_wp2_with fail
       exact ⟨⟨k + 1, by omega, by go_num, HXq.out, HOq.out⟩, by simp [intOf]; omega⟩
  · have hkn : k = n := by omega
    subst hkn
    have HT : Hid (commS (a.take k) b = commS a b) := by show _ = _; rw [List.take_of_length_le (by have := HAn.out; omega)]
    rw [HT.out] at HO
    obtain ⟨A', c', rfl, hc, _, hS, hfr⟩ := own_sl (f := Spn.vals) (size := 2) (fun _ => rfl) rfl HO.out
    have HR := Lib.hid (And.intro hc (And.intro hS (And.intro hfr HX.out)))
    clear hc hS hfr HO
    go_wp2_with fail
    go_ret
    exact ⟨A', c', rfl, HR.out.2.1, HR.out.1, HR.out.2.2.2, HR.out.2.2.1⟩
end
section
open Go.RowKit
theorem one_ok {s : Spn} (h : s.inn < s.out) : SetOk [s] := ⟨fun x hx => by simp at hx; subst hx; exact h, by simp⟩
theorem restF_len (a : Int) (l : List Spn) : (restF a l).length ≤ l.length + 1 := by rw [restF_T, List.length_append]; have := restT_len a l; simp; omega
theorem comm_set {s : Spn} {p : List Spn} (hp : SetOk p) (hb : InT p) : SetOk (commS [s] (restF 0 p)) := ⟨comm_full _ _, comm_apt _ (rest_ok hp hb (by unfold maxT; omega)).2.1⟩
theorem comm_in {s : Spn} {p : List Spn} (h0 : 0 ≤ s.inn) (h1 : s.out ≤ maxT) : InT (commS [s] (restF 0 p)) := by
 intro x hx
 rw [comm_one] at hx
 obtain ⟨y, hy, h⟩ := List.mem_flatMap.1 hx
 split at h
 · simp at h; subst h; simp only; omega
 · simp at h
set_option maxRecDepth 100000 in
set_option maxHeartbeats 4000000 in
theorem SMinus_one (A : Option Addr) (c : Nat) (s : Spn) (B : Option Addr) (m d : Nat) (p : List Spn) (w : World) (ha : SpnsAt w A 1 [s]) (hb : SpnsAt w B m p) (hm : m ≤ 300) (hs : s.inn < s.out) (h0 : 0 ≤ s.inn) (h1 : s.out ≤ maxT) (hp : SetOk p) (hpb : InT p) :
 Calls Tryz.prog 113 #[.slice A 1 c, .slice B m d] w (SpnsPost2 (commS [s] (restF 0 p)) w) := by
 have hbl := hb.len
 have hcl : (commS [s] (restF 0 p)).length ≤ 301 := by have h1 := comm_len [s] (restF 0 p); have h2 := restF_len 0 p; simp at h1; omega
 have hrl := restF_len 0 p
 have HC1 := Lib.hid (fun w' (hx : Ext w w') => SCheck_ok A 1 c [s] w' (ha.ext hx) (one_ok hs) (fun x hx => by simp at hx; subst hx; exact ⟨h0, h1⟩) (by omega))
 have HC2 := Lib.hid (fun w' (hx : Ext w w') => SCheck_ok B m d p w' (hb.ext hx) hp hpb (by omega))
 have HR := Lib.hid (fun w' (hx : Ext w w') => Rest_any B m d p w' (hb.ext hx) (by omega))
 have HCm := Lib.hid (fun w' (hx : Ext w w') R rc (hr : SpnsAt w' R (restF 0 p).length (restF 0 p)) => Common_any A 1 c [s] R (restF 0 p).length rc (restF 0 p) w' (ha.ext hx) hr (by omega) (by omega))
 clear ha hb hp hpb hs h0 h1
 unfold SpnsPost2
 unfold SpnsPost at HR HCm
 generalize commS [s] (restF 0 p) = cm at *
 generalize restF 0 p = rs at *
 go_enter Tryz.func113, Tryz.ntmps113
 have HCk : Hid (∀ w' (hx : Ext w w'), Calls Tryz.prog 179 #[.slice A 1 c, .slice B m d] w' fun e w2 => e = .returned (.int .i64 0) ∧ Ext w' w2) := by
  intro w' hx
  have HX := Lib.hid hx
  go_enter Tryz.func179, Tryz.ntmps179
  go_wp2_with fail
  refine (HC1.out _ HX.out).mono ?_
  rintro e w2 ⟨rfl, hx2⟩
  have HX2 := Lib.hid (HX.out.trans hx2)
  have HX3 := Lib.hid hx2
  clear hx2
  go_wp2_with fail
  refine (HC2.out _ HX2.out).mono ?_
  rintro e w3 ⟨rfl, hx3⟩
  have HX4 := Lib.hid (HX3.out.trans hx3)
  clear hx3
  go_wp2_with fail
  go_ret
  exact ⟨rfl, HX4.out⟩
 have HLim : Hid (∀ w' Z zc, Calls Tryz.prog 180 #[.slice Z cm.length zc] w' fun e w2 => e = .returned (.tuple #[.slice Z cm.length zc, .int .i64 0]) ∧ w2 = w') := by
  intro w' Z zc
  have g1 : decide ((cm.length : Int) > 400) = false := by simp; omega
  have g2 : decide ((400 : Int) < cm.length) = false := by simp; omega
  go_enter Tryz.func180, Tryz.ntmps180
  go_wp2_with fail
  go_ret2
  exact ⟨rfl, rfl⟩
 go_wp2_with fail
 refine (HCk.out _ (Ext.refl _)).mono ?_
 rintro e w1 ⟨rfl, hx1⟩
 have HX1 := Lib.hid hx1
 clear hx1
 go_wp2_with fail
 refine (HR.out _ HX1.out).mono ?_
 rintro e w2 ⟨R, rc, rfl, hr, -, hx2, -⟩
 have HX2 := Lib.hid (HX1.out.trans hx2)
 have HRr := Lib.hid hr
 clear hx2 hr
 go_wp2_with fail
 refine (HCm.out _ HX2.out R rc HRr.out).mono ?_
 rintro e w3 ⟨Z, zc, rfl, hz, hzc, hx3, hzf⟩
 have HX3 := Lib.hid (HX2.out.trans hx3)
 have HZ := Lib.hid (And.intro hz (And.intro hzc (fun ad h => Nat.le_trans HX2.out.size (hzf ad h))))
 clear hx3 hz hzc hzf
 go_wp2_with fail
 refine (HLim.out _ _ _).mono ?_
 rintro e w4 ⟨rfl, rfl⟩
 go_wp2_with fail
 go_ret2
 exact ⟨Z, zc, rfl, HZ.out.1, HZ.out.2.1, HX3.out, HZ.out.2.2⟩
theorem sum_bd : ∀ (l : List Spn), Full l → InT l → 0 ≤ sumL l ∧ sumL l ≤ l.length * maxT
 | [], _, _ => by simp [sumL]
 | s :: l, h, hb => by
  have ih := sum_bd l (fun x hx => h x (by simp [hx])) (fun x hx => hb x (by simp [hx]))
  have h1 := h s (by simp)
  have h2 := hb s (by simp)
  have e : sumL (s :: l) = (s.out - s.inn) + sumL l := by unfold sumL; simp
  rw [e]
  unfold maxT at *
  simp only [List.length_cons]
  omega
theorem sum_snoc (l : List Spn) (x : Spn) : sumL (l ++ [x]) = sumL l + (x.out - x.inn) := by unfold sumL; simp
def LnRel (w : World) (n : Nat) (l : List Spn) (v i : Value) (wr : World) : Prop := ∃ k : Nat, k ≤ n ∧ i = .int .i64 k ∧ v = .int .i64 (sumL (l.take k)) ∧ Ext w wr
set_option maxRecDepth 100000 in
set_option maxHeartbeats 2000000 in
theorem SLen_ok (A : Option Addr) (n c : Nat) (l : List Spn) (w : World) (hl : SpnsAt w A n l) (hok : SetOk l) (hb : InT l) (hn : n ≤ 400) :
 Calls Tryz.prog 114 #[.slice A n c] w fun e w' => e = .returned (.tuple #[.int .i64 (sumL l), .int .i64 0]) ∧ Ext w w' := by
 have HL := Lib.hid hl
 have HLn := Lib.hid hl.len
 have HC := Lib.hid (SCheck_ok A n c l w hl hok hb hn)
 have HBd := Lib.hid (fun k => sum_bd (l.take k) (fun x hx => hok.1 x (List.mem_of_mem_take hx)) (fun x hx => hb x (List.mem_of_mem_take hx)))
 have HE := Lib.hid (fun x (hx : x ∈ l) => And.intro (hok.1 x hx) (hb x hx))
 clear hl hok hb
 go_enter Tryz.func114, Tryz.ntmps114
 go_wp2_with fail
 refine HC.out.mono ?_
 rintro e w1 ⟨rfl, hx1⟩
 have HX1 := Lib.hid hx1
 clear hx1 HC
 go_wp2_with fail
 go_loopw [5, 15] (fun v i wr => LnRel w n l v i wr) (fun _ i _ => n - (intOf i).toNat)
 case atStart => exact ⟨0, Nat.zero_le _, rfl, rfl, HX1.out⟩
 case round =>
  obtain ⟨k, hk, rfl, rfl, hx⟩ := hrel
  have HX := Lib.hid hx
  clear hx
  by_cases hlt : k < n
  · obtain ⟨b, off, x, rfl, hxk, hC⟩ := (HL.out.ext HX.out).at_ hlt
    have c0 := hC 0 _ rfl
    have c1 := hC 1 _ rfl
    simp only [Nat.add_zero] at c0
    have hb1 := HBd.out k
    have hxb := HE.out x (List.mem_of_getElem? hxk)
    have HS : Hid (sumL (l.take (k + 1)) = sumL (l.take k) + (x.out - x.inn)) := by show _ = _; rw [take_snoc' _ _ _ hxk]; exact sum_snoc _ _
    rw [List.length_take] at hb1
    unfold maxT at hb1 hxb
    clear hC hxk
    generalize sumL (l.take k) = sm at *
    have hsm : sm ≤ 400 * 10378368000 := by
     have h1 : (min k l.length : Nat) ≤ 400 := by omega
     have h2 : ((min k l.length : Nat) : Int) ≤ 400 := by omega
     have := Int.mul_le_mul_of_nonneg_right h2 (show (0 : Int) ≤ 10378368000 by omega)
     omega
    have hsm0 := hb1.1
    obtain ⟨hx1, hx2, hx3⟩ := hxb
    have HX2 := Lib.hid (HX.out.alloc (.cells #[.int .i64 x.inn, .int .i64 x.out] 60))
    clear hb1
    go_wp2_with fail
    exact ⟨⟨k + 1, by omega, by go_num, by rw [HS.out], HX2.out⟩, by simp [intOf]; omega⟩
  · have hkn : k = n := by omega
    subst hkn
    have HT : Hid (sumL (l.take k) = sumL l) := by show _ = _; rw [List.take_of_length_le (by have := HLn.out; omega)]
    rw [HT.out]
    obtain ⟨sm, hsm⟩ : ∃ sm, sm = sumL l := ⟨_, rfl⟩
    rw [← hsm]
    have HSm := Lib.hid hsm
    clear hsm
    go_wp2_with fail
    go_ret2
    exact ⟨by rw [← HSm.out]; rfl, HX.out⟩
set_option maxRecDepth 100000 in
set_option maxHeartbeats 2000000 in
theorem Lost_any (s : Spn) (B : Option Addr) (m d : Nat) (p : List Spn) (w : World) (hb : SpnsAt w B m p) (hm : m ≤ 300) (hs : s.inn < s.out) (h0 : 0 ≤ s.inn) (h1 : s.out ≤ maxT) (hp : SetOk p) (hpb : InT p) :
 Calls Tryz.prog 53 #[.agg #[.int .i64 s.inn, .int .i64 s.out], .slice B m d] w fun e w' => e = .returned (.int .i64 (lostS s p)) ∧ Ext w w' := by
 have hbl := hb.len
 have hcl : (commS [s] (restF 0 p)).length ≤ 301 := by have h1 := comm_len [s] (restF 0 p); have h2 := restF_len 0 p; simp at h1; omega
 have HX0 := Lib.hid (((Ext.refl w).alloc (.cells #[.int .i64 s.inn, .int .i64 s.out] 60)).alloc (.cells #[.int .i64 s.inn, .int .i64 s.out] 60))
 have HMn := Lib.hid (fun w' A c (hx : Ext w w') (ha : SpnsAt w' A 1 [s]) => SMinus_one A c s B m d p w' ha (hb.ext hx) hm hs h0 h1 hp hpb)
 have HLn := Lib.hid (fun w' A c (ha : SpnsAt w' A (commS [s] (restF 0 p)).length (commS [s] (restF 0 p))) => SLen_ok A (commS [s] (restF 0 p)).length c (commS [s] (restF 0 p)) w' ha (comm_set hp hpb) (comm_in h0 h1) (by omega))
 have HF : Hid (lostS s p = sumL (commS [s] (restF 0 p))) := rfl
 unfold SpnsPost2 at HMn
 clear hb hp hpb hs h0 h1 hcl
 generalize lostS s p = ls at *
 generalize commS [s] (restF 0 p) = cm at *
 have HS1 : Hid (SpnsAt ((w.alloc (.cells #[.int .i64 s.inn, .int .i64 s.out] 60)).alloc (.cells #[.int .i64 s.inn, .int .i64 s.out] 60)) (some ⟨(w.alloc (.cells #[.int .i64 s.inn, .int .i64 s.out] 60)).heap.size, 0, none⟩) 1 [s]) := by
  refine ⟨rfl, fun _ => ⟨_, 0, rfl, fun i x hx j u hu => ?_⟩⟩
  match i, hx with
  | 0, hx =>
   simp at hx; subst hx
   have := (Blk.new (w.alloc (.cells #[.int .i64 s.inn, .int .i64 s.out] 60)) 60 #[.int .i64 s.inn, .int .i64 s.out]).cell j
   simp only [Nat.zero_mul, Nat.zero_add]
   rw [this]
   simpa [Spn.vals] using hu
  | i + 1, hx => simp at hx
 simp only [World.size_alloc] at HS1
 go_enter Tryz.func53, Tryz.ntmps53
 go_wp2_with fail
 refine (HMn.out _ _ _ HX0.out HS1.out).mono ?_
 rintro e w1 ⟨Z, zc, rfl, hz, -, hx1, -⟩
 have HX1 := Lib.hid (HX0.out.trans hx1)
 have HZ := Lib.hid hz
 clear hz hx1
 go_wp2_with fail
 refine (HLn.out _ _ _ HZ.out).mono ?_
 rintro e w2 ⟨rfl, hx2⟩
 have HX2 := Lib.hid (HX1.out.trans hx2)
 clear hx2
 go_wp2_with fail
 go_ret
 exact ⟨ret_int HF.out.symm, HX2.out⟩
end
end Go.Proofs.YtablhmobekmflaaGreatDoor